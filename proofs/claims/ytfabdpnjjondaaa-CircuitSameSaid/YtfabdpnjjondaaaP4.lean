/-
  Compile as a plain function; its gates' numbers are in range and few.
-/
import Derived.Test.YtfabdpnjjondaaaG13
import Derived.Test.YtfabdpnjjondaaaP3
set_option linter.unusedVariables false
set_option linter.unusedSimpArgs false
namespace Go.Proofs.Ytfabdpnjjondaaa

def rowsM (m : Mly) : Nat := 2 ^ (laW m + inW m)
def outVal (m : Mly) (i : Nat) (q x : Int) : Int := bitZ ((m.out.getD q.toNat []).getD x.toNat 0) i
def latVal (m : Mly) (i : Nat) (q x : Int) : Int := bitZ (codeZ m.start ((m.next.getD q.toNat []).getD x.toNat 0)) i
def outCells (m : Mly) (i : Nat) : List Int := cellsOf (outVal m i) (pairsTo m (rowsM m))
def latCells (m : Mly) (i : Nat) : List Int := cellsOf (latVal m i) (pairsTo m (rowsM m))
def colsTo (cells : Nat → List Int) (vars : List Int) (gs : GS) : Nat → List Int × GS
  | 0 => ([], gs)
  | k + 1 => ((colsTo cells vars gs k).1 ++ [(buildG (colsTo cells vars gs k).2 (cells k) vars).1], (buildG (colsTo cells vars gs k).2 (cells k) vars).2)
def outsTo' (m : Mly) (k : Nat) : List Int × GS := colsTo (outCells m) (newVars m).1 (newVars m).2 k
def outsM (m : Mly) : List Int × GS := outsTo' m (bitsN m.outs)
def latsTo' (m : Mly) (k : Nat) : List Int × GS := colsTo (latCells m) (newVars m).1 (outsM m).2 k
def latsM (m : Mly) : List Int × GS := latsTo' m (laW m)
def compileC (m : Mly) : Cir := usedC (latsM m).2 (inW m) (latsM m).1 (outsM m).1
def compileE (m : Mly) : Int := if mealyB m then (if 512 < (m.out.length : Int) * m.ins then 2 else 0) else 1
def compileZ (m : Mly) : Cir := if compileE m = 0 then compileC m else ⟨0, [], [], []⟩

theorem nodup_rev {n : Nat} : (List.range n).reverse.Nodup := by
  unfold List.Nodup
  rw [List.pairwise_reverse]
  exact List.nodup_range.imp fun h e => h e.symm
theorem nodup_map_inj {α β : Type} {f : α → β} {l : List α} (h : l.Nodup) (hf : ∀ a b, f a = f b → a = b) : (l.map f).Nodup := by
  unfold List.Nodup at h ⊢
  rw [List.pairwise_map]
  exact h.imp fun hne e => hne (hf _ _ e)
/-! The variables. -/
theorem varsFrom_eq (kind : Int) : ∀ (n : Nat) (s : List Int × GS), (∀ g ∈ s.2, ∀ i : Nat, i < n → g ≠ ⟨kind, i, 0⟩) →
    varsFrom kind n s = (s.1 ++ (List.range n).map (fun i => ((s.2.length + i : Nat) : Int)), s.2 ++ (List.range n).reverse.map fun i => ⟨kind, i, 0⟩)
  | 0, s, _ => by simp [varsFrom]
  | n + 1, s, h => by
    have hn : (⟨kind, n, 0⟩ : Gt) ∉ s.2 := fun hm => h _ hm n (by omega) rfl
    rw [varsFrom]
    unfold addG
    rw [if_neg hn]
    rw [varsFrom_eq kind n]
    · refine Prod.ext ?_ ?_
      · dsimp only
        rw [List.range_succ_eq_map, List.map_cons, List.append_assoc]
        simp only [List.length_append, List.length_singleton, List.singleton_append, List.map_map, Nat.add_zero]
        congr 2
        refine List.map_congr_left fun i _ => ?_
        simp only [Function.comp]
        congr 1
        omega
      · dsimp only
        rw [List.range_succ, List.reverse_append, List.map_append, List.append_assoc]; rfl
    · intro g hg i hi
      dsimp only at hg
      rw [List.mem_append, List.mem_singleton] at hg
      rcases hg with hg | rfl
      · exact h g hg i (by omega)
      · intro e
        injection e with _ e
        omega
theorem newVars_eq (m : Mly) : newVars m = ((List.range (laW m + inW m)).map (fun i : Nat => (i : Int)), (List.range (laW m)).reverse.map (fun i : Nat => ⟨3, i, 0⟩) ++ (List.range (inW m)).reverse.map fun i : Nat => ⟨2, i, 0⟩) := by
  unfold newVars
  rw [varsFrom_eq 3 (laW m) ([], []) (fun g hg => by cases hg), varsFrom_eq 2]
  · refine Prod.ext ?_ ?_
    · dsimp only
      rw [List.range_add, List.map_append]
      simp [Function.comp_def]
    · simp
  · intro g hg i _ e
    simp only [List.nil_append, List.mem_map] at hg
    obtain ⟨j, _, rfl⟩ := hg
    injection e with e _
    omega
theorem newVars_len (m : Mly) : (newVars m).1.length = laW m + inW m ∧ (newVars m).2.length = laW m + inW m := by
  rw [newVars_eq]; simp
theorem newVars_get (m : Mly) {j : Nat} (hj : j < laW m + inW m) : (newVars m).1.getD j 0 = j := by
  rw [newVars_eq]; simp [List.getD, hj]
theorem newVars_range (m : Mly) : ∀ j, j < (newVars m).1.length → 0 ≤ (newVars m).1.getD j 0 ∧ (newVars m).1.getD j 0 < (newVars m).2.length := by
  intro j hj
  rw [(newVars_len m).1] at hj
  rw [newVars_get m hj, (newVars_len m).2]
  omega
theorem newVars_gate (m : Mly) {j : Nat} (hj : j < laW m + inW m) : (newVars m).2.getD j default = if j < laW m then ⟨3, ((laW m - 1 - j : Nat) : Int), 0⟩ else ⟨2, ((inW m - 1 - (j - laW m) : Nat) : Int), 0⟩ := by
  rw [newVars_eq]
  dsimp only
  split
  · rename_i h
    simp [List.getD, List.getElem?_append, h, List.getElem?_reverse]
  · rename_i h
    have h2 : j - laW m < inW m := by omega
    simp [List.getD, List.getElem?_append, h, h2, List.getElem?_reverse]
theorem newVars_ok (m : Mly) : Ok (inW m) (laW m) (newVars m).2 := by
  intro j hj
  rw [(newVars_len m).2] at hj
  rw [newVars_gate m hj]
  split
  · simp [gateB]; omega
  · simp [gateB]; omega
theorem newVars_fine (m : Mly) : Fine (newVars m).2 := by
  refine ⟨?_, fun j hj hk => ?_⟩
  · rw [newVars_eq]
    dsimp only
    rw [List.nodup_append]
    refine ⟨?_, ?_, ?_⟩
    · exact nodup_map_inj (nodup_rev) (fun a b e => by injection e with _ e; omega)
    · exact nodup_map_inj (nodup_rev) (fun a b e => by injection e with _ e; omega)
    · intro a ha b hb e
      obtain ⟨i, _, rfl⟩ := List.mem_map.1 ha
      obtain ⟨i', _, rfl⟩ := List.mem_map.1 hb
      injection e with e
      omega
  · rw [(newVars_len m).2] at hj
    rw [newVars_gate m hj] at hk
    split at hk
    · exact absurd hk (by show ¬ (3 : Int) = 5; decide)
    · exact absurd hk (by show ¬ (2 : Int) = 5; decide)
theorem newVars_po (m : Mly) : pO (newVars m).2 ≤ laW m + inW m + 1 ∧ cA (newVars m).2 = 0 := by
  have h1 : cO (newVars m).2 ≤ (newVars m).2.length := List.countP_le_length
  rw [(newVars_len m).2] at h1
  constructor
  · unfold pO
    split <;> omega
  · unfold cA
    rw [List.countP_eq_zero, newVars_eq]
    intro g hg
    simp only [List.mem_append, List.mem_map] at hg
    rcases hg with ⟨i, _, rfl⟩ | ⟨i, _, rfl⟩ <;> simp

/-! Few gates. -/
theorem nodup_le {α : Type} [DecidableEq α] : ∀ (l m : List α), l.Nodup → (∀ x ∈ l, x ∈ m) → l.length ≤ m.length
  | [], _, _, _ => Nat.zero_le _
  | x :: l, m, hd, hs => by
    have hx := hs x (by simp)
    rw [List.nodup_cons] at hd
    have := nodup_le l (m.erase x) hd.2 (fun y hy => (List.mem_erase_of_ne (fun e => hd.1 (by rw [← e]; exact hy))).2 (hs y (by simp [hy])))
    rw [List.length_erase_of_mem hx] at this
    have hm := List.length_pos_of_mem hx
    simp only [List.length_cons]
    omega
theorem nodup_getD {gs : GS} (h : gs.Nodup) {i j : Nat} (hi : i < gs.length) (hj : j < gs.length) (e : gs.getD i default = gs.getD j default) : i = j := by
  have hp := List.pairwise_iff_getElem.1 h
  simp only [List.getD, List.getElem?_eq_getElem hi, List.getElem?_eq_getElem hj, Option.getD_some] at e
  rcases Nat.lt_trichotomy i j with h1 | h1 | h1
  · exact absurd e (hp i j hi hj h1)
  · exact h1
  · exact absurd e.symm (hp j i hj hi h1)
theorem countP_range (gs : GS) (p : Gt → Bool) : gs.countP p = ((List.range gs.length).filter fun j => p (gs.getD j default)).length := by
  have e : gs = (List.range gs.length).map fun j => gs.getD j default := by
    apply List.ext_getElem
    · simp
    · intro i h1 h2
      simp [List.getD, h1]
  rw [← List.countP_eq_length_filter]
  conv => lhs; rw [e]
  rw [List.countP_map]; rfl
theorem nots_le {ib nl : Int} {gs : GS} (h : Fine gs) (hok : Ok ib nl gs) : cN gs ≤ cA gs + cO gs := by
  have hs := c_sum gs
  have e5 : cN gs = ((List.range gs.length).filter fun j => decide ((gs.getD j default).k = 5)).length := countP_range gs _
  have e6 : gs.length = ((List.range gs.length).filter fun j => decide ((gs.getD j default).k = 5)).length + ((List.range gs.length).filter fun j => !decide ((gs.getD j default).k = 5)).length := by
    have := (List.length_eq_countP_add_countP (l := List.range gs.length) (p := fun j => decide ((gs.getD j default).k = 5)))
    rw [List.length_range] at this
    rw [← List.countP_eq_length_filter, ← List.countP_eq_length_filter]
    simpa using this
  have hb : ∀ j, j < gs.length → (gs.getD j default).k = 5 → (gs.getD j default).b = 0 := fun j hj hk => by
    have := hok j hj
    generalize gs.getD j default = g at this hk
    unfold gateB at this
    simp [hk] at this
    exact this.2
  have key := nodup_le (((List.range gs.length).filter fun j => decide ((gs.getD j default).k = 5)).map fun j => (gs.getD j default).a.toNat) ((List.range gs.length).filter fun j => !decide ((gs.getD j default).k = 5)) ?_ ?_
  · rw [List.length_map] at key
    omega
  · unfold List.Nodup
    rw [List.pairwise_map]
    refine List.Pairwise.imp_of_mem ?_ (List.nodup_range.filter _)
    intro i j hi hj hne e
    rw [List.mem_filter, List.mem_range, decide_eq_true_eq] at hi hj
    have ni := h.nn i hi.1 hi.2
    have nj := h.nn j hj.1 hj.2
    refine hne (nodup_getD h.nd hi.1 hj.1 ?_)
    have ea : (gs.getD i default).a = (gs.getD j default).a := by omega
    have eb := (hb i hi.1 hi.2).trans (hb j hj.1 hj.2).symm
    have ek := hi.2.trans hj.2.symm
    generalize gs.getD i default = x at ea eb ek
    generalize gs.getD j default = y at ea eb ek
    obtain ⟨xk, xa, xb⟩ := x
    obtain ⟨yk, ya, yb⟩ := y
    dsimp only at ea eb ek
    rw [ea, eb, ek]
  · intro x hx
    obtain ⟨j, hj, rfl⟩ := List.mem_map.1 hx
    rw [List.mem_filter, List.mem_range, decide_eq_true_eq] at hj
    have nj := h.nn j hj.1 hj.2
    rw [List.mem_filter, List.mem_range]
    exact ⟨by omega, by simpa using nj.2.2⟩

/-! The columns. -/
/-- What a walk over the columns keeps: gs is where it began. -/
structure Cols (ib nl : Int) (b : Nat) (gs : GS) (k : Nat) (s : List Int × GS) : Prop where
  pre : gs <+: s.2
  ok : Ok ib nl s.2
  len : s.1.length = k
  rng : ∀ j, j < k → 0 ≤ s.1.getD j 0 ∧ s.1.getD j 0 < s.2.length
  gr : Gr (k * (3 * (b - 1))) gs s.2
theorem cols_of {ib nl : Int} {b : Nat} {gs : GS} {cells : Nat → List Int} {vars : List Int} (hok : Ok ib nl gs) (hv : ∀ j, j < vars.length → 0 ≤ vars.getD j 0 ∧ vars.getD j 0 < gs.length)
    (hc : ∀ i, (cells i).length = 2 ^ vars.length ∧ blk vars.length (cells i) ≤ b ∧ ∀ j, j < (cells i).length → (cells i).getD j 0 = -1 ∨ (cells i).getD j 0 = 0 ∨ (cells i).getD j 0 = 1) : ∀ k, Cols ib nl b gs k (colsTo cells vars gs k)
  | 0 => ⟨List.prefix_rfl, hok, rfl, fun _ h => absurd h (Nat.not_lt_zero _), (Gr.refl gs).mono (by omega)⟩
  | k + 1 => by
    have h := cols_of hok hv hc k
    obtain ⟨c1, c2, c3⟩ := hc k
    have hl := h.pre.length_le
    have hv2 : ∀ j, j < vars.length → 0 ≤ vars.getD j 0 ∧ vars.getD j 0 < (colsTo cells vars gs k).2.length := fun j hj => ⟨(hv j hj).1, by have := (hv j hj).2; omega⟩
    have hu := build_up vars (colsTo cells vars gs k).2 (cells k) h.ok hv2
    have hg := build_gr vars.length vars (colsTo cells vars gs k).2 (cells k) rfl h.ok hv2 c1 c3
    have hul := hu.len
    refine ⟨h.pre.trans hu.pre, hu.ok, by simp [colsTo, h.len], fun j hj => ?_, (h.gr.trans hg).mono ?_⟩
    · simp only [colsTo]
      rw [getD_snoc, h.len]
      split
      · have := h.rng j ‹_›; omega
      · rw [if_pos (by omega)]
        exact ⟨hu.lo, hu.hi⟩
    · rw [Nat.add_mul]
      omega
theorem blk_le : ∀ (n : Nat) (cells : List Int), blk n cells ≤ 2 ^ n
  | 0, cells => by simp only [blk]; split <;> omega
  | 1, cells => by simp only [blk]; split <;> omega
  | n + 2, cells => by
    have h1 := blk_le (n + 1) (cells.take (cells.length / 2))
    have h2 := blk_le (n + 1) (cells.drop (cells.length / 2))
    rw [blk, show n + 2 = (n + 1) + 1 from rfl, Nat.pow_succ]
    omega
theorem cells_ok (val : Int → Int → Int) (prs : List (Int × Int)) (h : ∀ q x, val q x = 0 ∨ val q x = 1) : ∀ j, j < (cellsOf val prs).length → (cellsOf val prs).getD j 0 = -1 ∨ (cellsOf val prs).getD j 0 = 0 ∨ (cellsOf val prs).getD j 0 = 1 := by
  intro j hj
  simp only [cellsOf, List.length_map] at hj
  simp only [cellsOf, List.getD, List.getElem?_map, List.getElem?_eq_getElem hj, Option.map_some, Option.getD_some]
  split
  · exact .inl rfl
  · exact .inr (h _ _)
theorem pairs_len (m : Mly) (k : Nat) : (pairsTo m k).length = k := by simp [pairsTo]
theorem outs_cols (m : Mly) (b : Nat) (hb : ∀ i, blk (laW m + inW m) (outCells m i) ≤ b) (k : Nat) : Cols (inW m) (laW m) b (newVars m).2 k (outsTo' m k) :=
  cols_of (newVars_ok m) (newVars_range m) (fun i => ⟨by rw [(newVars_len m).1]; simp [outCells, cellsOf, pairs_len, rowsM], by rw [(newVars_len m).1]; exact hb i, cells_ok _ _ fun q x => bitZ_01 _ _⟩) k
theorem lats_cols (m : Mly) (b : Nat) (hb : ∀ i, blk (laW m + inW m) (outCells m i) ≤ b) (hb2 : ∀ i, blk (laW m + inW m) (latCells m i) ≤ b) (k : Nat) : Cols (inW m) (laW m) b (outsM m).2 k (latsTo' m k) := by
  have h := outs_cols m b hb (bitsN m.outs)
  have hl := h.pre.length_le
  exact cols_of h.ok (fun j hj => ⟨(newVars_range m j hj).1, by have := (newVars_range m j hj).2; show _ < ((outsTo' m (bitsN m.outs)).2.length : Int); omega⟩) (fun i => ⟨by rw [(newVars_len m).1]; simp [latCells, cellsOf, pairs_len, rowsM], by rw [(newVars_len m).1]; exact hb2 i, cells_ok _ _ fun q x => bitZ_01 _ _⟩) k
theorem total_le {ib nl : Int} {n : Nat} {m : Mly} {gs : GS} (hok : Ok ib nl gs) (h : Gr n (newVars m).2 gs) : gs.length ≤ 2 * (laW m + inW m + 1 + n) := by
  have h1 := c_sum gs
  have h2 := nots_le (h.fine (newVars_fine m)) hok
  have h3 := h.po
  have h4 := h.ca
  have h5 := (newVars_po m).1
  have h6 := (newVars_po m).2
  have h7 : cO gs ≤ pO gs := by unfold pO; omega
  omega
/-- The lists of gates on the way are short. -/
theorem outs_few (m : Mly) (b : Nat) (hb : ∀ i, blk (laW m + inW m) (outCells m i) ≤ b) (k : Nat) : (outsTo' m k).2.length ≤ 2 * (laW m + inW m + 1 + k * (3 * (b - 1))) :=
  total_le (outs_cols m b hb k).ok (outs_cols m b hb k).gr
theorem lats_few (m : Mly) (b : Nat) (hb : ∀ i, blk (laW m + inW m) (outCells m i) ≤ b) (hb2 : ∀ i, blk (laW m + inW m) (latCells m i) ≤ b) (k : Nat) :
    (latsTo' m k).2.length ≤ 2 * (laW m + inW m + 1 + (bitsN m.outs * (3 * (b - 1)) + k * (3 * (b - 1)))) :=
  total_le (lats_cols m b hb hb2 k).ok ((outs_cols m b hb (bitsN m.outs)).gr.trans (lats_cols m b hb hb2 k).gr)
/-- The sizes of a controller that is compiled. -/
structure Sized (m : Mly) : Prop where
  i1 : 1 ≤ m.ins
  i2 : m.ins ≤ 64
  o1 : 1 ≤ m.outs
  o2 : m.outs ≤ 64
  n1 : 1 ≤ m.out.length
  n2 : m.out.length ≤ 3000
  s0 : 0 ≤ m.start
  s1 : m.start < m.out.length
  nn : m.next.length = m.out.length
  outr : ∀ q x : Nat, q < m.out.length → x < m.ins → (m.out.getD q []).length = m.ins ∧ 0 ≤ (m.out.getD q []).getD x 0 ∧ (m.out.getD q []).getD x 0 < m.outs
  nextr : ∀ q x : Nat, q < m.out.length → x < m.ins → (m.next.getD q []).length = m.ins ∧ 0 ≤ (m.next.getD q []).getD x 0 ∧ (m.next.getD q []).getD x 0 < m.out.length
theorem row_of {n most : Int} {l : List Int} (h : rowB n most l = true) {x : Nat} (hx : x < n) : (l.length : Int) = n ∧ 0 ≤ l.getD x 0 ∧ l.getD x 0 < most := by
  unfold rowB belowB at h
  rw [Bool.and_eq_true, decide_eq_true_eq] at h
  have := allN_true.1 h.2 x (by omega)
  rw [Bool.and_eq_true, decide_eq_true_eq, decide_eq_true_eq] at this
  exact ⟨h.1, this.1, this.2⟩
theorem sized_of {m : Mly} (h : mealyB m = true) : Sized m := by
  simp only [mealyB, Bool.and_eq_true, decide_eq_true_eq] at h
  obtain ⟨⟨⟨⟨⟨⟨⟨⟨⟨h1, h2⟩, h3⟩, h4⟩, h5⟩, h6⟩, h7⟩, h8⟩, h9⟩, h10⟩ := h
  exact ⟨h1, h2, h3, h4, by omega, h5, h6, h7, h8, fun q x hq hx => row_of (allN_true.1 h9 q hq) hx, fun q x hq hx => row_of (allN_true.1 h10 q (by omega)) hx⟩
theorem pow_le {a : Nat} {n : Int} (h1 : 1 ≤ n) (h2 : n ≤ 65536) (ha : a = bitsN n) : ((2 ^ a : Nat) : Int) ≤ 2 * n - 1 := by
  subst ha
  have := (bitsN_range n h1 h2).2
  have e : ((2 ^ bitsN n : Nat) : Int) = pow2 (bitsN n) := by rw [pow2_eq]; simp
  rw [e]
  by_cases h : 1 < n
  · have := this h; omega
  · obtain rfl : n = 1 := by omega
    decide
theorem rows_le {m : Mly} (h : Sized m) (h5 : (m.out.length : Int) * m.ins ≤ 512) : rowsM m ≤ 2048 := by
  have h1 := pow_le (a := laW m) (n := m.out.length) (by have := h.n1; omega) (by have := h.n2; omega) rfl
  have h2 := pow_le (a := inW m) (n := m.ins) h.i1 (by have := h.i2; omega) rfl
  have h3 : ((2 ^ laW m : Nat) : Int) * ((2 ^ inW m : Nat) : Int) ≤ (2 * (m.out.length : Int)) * (2 * m.ins) :=
    Int.mul_le_mul (by omega) (by omega) (Int.natCast_nonneg _) (by have := h.n1; omega)
  have h4 : (2 * (m.out.length : Int)) * (2 * m.ins) = 4 * ((m.out.length : Int) * m.ins) := by
    rw [Int.mul_assoc, Int.mul_left_comm (m.out.length : Int) 2 m.ins, ← Int.mul_assoc]; rfl
  unfold rowsM
  rw [Nat.pow_add]
  have h6 : ((2 ^ laW m * 2 ^ inW m : Nat) : Int) ≤ 2048 := by
    rw [Int.natCast_mul]
    omega
  omega
theorem widths_le {m : Mly} (h : Sized m) : laW m ≤ 16 ∧ inW m ≤ 16 ∧ bitsN m.outs ≤ 16 :=
  ⟨bitsN_le _ (by have := h.n1; omega) (by have := h.n2; omega), bitsN_le _ h.i1 (by have := h.i2; omega), bitsN_le _ h.o1 (by have := h.o2; omega)⟩
theorem few_of {m : Mly} (h : Sized m) (h5 : (m.out.length : Int) * m.ins ≤ 512) : (∀ k, k ≤ 16 → (outsTo' m k).2.length ≤ 999000) ∧ ∀ k, k ≤ 16 → (latsTo' m k).2.length ≤ 999000 := by
  have hr := rows_le h h5
  obtain ⟨w1, w2, w3⟩ := widths_le h
  have hb : ∀ i, blk (laW m + inW m) (outCells m i) ≤ 2048 := fun i => Nat.le_trans (blk_le _ _) hr
  have hb2 : ∀ i, blk (laW m + inW m) (latCells m i) ≤ 2048 := fun i => Nat.le_trans (blk_le _ _) hr
  constructor
  · intro k hk
    have := outs_few m 2048 hb k
    have h6 : k * (3 * (2048 - 1)) ≤ 16 * (3 * (2048 - 1)) := Nat.mul_le_mul_right _ hk
    omega
  · intro k hk
    have := lats_few m 2048 hb hb2 k
    have h6 : k * (3 * (2048 - 1)) ≤ 16 * (3 * (2048 - 1)) := Nat.mul_le_mul_right _ hk
    have h7 : bitsN m.outs * (3 * (2048 - 1)) ≤ 16 * (3 * (2048 - 1)) := Nat.mul_le_mul_right _ w3
    omega
end Go.Proofs.Ytfabdpnjjondaaa
