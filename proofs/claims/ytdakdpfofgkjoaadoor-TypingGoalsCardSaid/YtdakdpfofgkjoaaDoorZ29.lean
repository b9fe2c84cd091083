/-
  Signals and requirements as plain data; what Formula, Check and Goal of typing say.
  Plain laws of typing: what Check's list tells, parts of formulas, further signals, requirements in another order.
  Plain laws of typing: the requirements one by one; the goal with the requirements in the opposite order and with further ones.
  Signals and requirements in memory.
-/
import Derived.Test.YtdakdpfofgkjoaaDoorZ28
set_option linter.unusedVariables false
set_option linter.unusedSimpArgs false
namespace Go.Proofs.YtdakdpfofgkjoaaDoor

/-- A signal. -/
structure Sg where
  name : ByteArray
  inp : Bool
  size : Int
instance : Inhabited Sg := ⟨⟨⟨#[]⟩, false, 0⟩⟩
/-- The index of the first element with a name; the length if there is none. -/
def firstN (s : ByteArray) : List ByteArray → Nat
  | [] => 0
  | a :: l => if a = s then 0 else firstN s l + 1
theorem firstN_le (s : ByteArray) : ∀ l : List ByteArray, firstN s l ≤ l.length
  | [] => Nat.le_refl _
  | a :: l => by
    rw [firstN]
    have := firstN_le s l
    split
    · omega
    · simp only [List.length_cons]; omega
theorem firstN_lt {s : ByteArray} : ∀ {l : List ByteArray}, firstN s l < l.length ↔ s ∈ l
  | [] => by simp [firstN]
  | a :: l => by
    rw [firstN]
    by_cases h : a = s
    · simp [h]
    · rw [if_neg h, List.length_cons, Nat.add_lt_add_iff_right, firstN_lt, List.mem_cons]
      simp [show ¬ s = a from fun e => h e.symm]
theorem firstN_at {s : ByteArray} : ∀ {l : List ByteArray}, firstN s l < l.length → l.getD (firstN s l) ⟨#[]⟩ = s
  | [], h => by simp [firstN] at h
  | a :: l, h => by
    rw [firstN] at h ⊢
    by_cases e : a = s
    · rw [if_pos e]; exact e
    · rw [if_neg e] at h ⊢
      rw [List.getD_cons_succ]
      exact firstN_at (by simpa using h)
theorem firstN_min {s : ByteArray} : ∀ {l : List ByteArray} {k : Nat}, k < firstN s l → l.getD k ⟨#[]⟩ ≠ s
  | [], k, h => by simp [firstN] at h
  | a :: l, k, h => by
    rw [firstN] at h
    by_cases e : a = s
    · rw [if_pos e] at h; omega
    · rw [if_neg e] at h
      cases k with
      | zero => exact e
      | succ k => rw [List.getD_cons_succ]; exact firstN_min (by omega)
theorem firstN_of {s : ByteArray} {l : List ByteArray} {k : Nat} (hk : k < l.length) (h : l.getD k ⟨#[]⟩ = s) : firstN s l ≤ k := by
  by_cases hl : k < firstN s l
  · exact absurd h (firstN_min hl)
  · omega
theorem firstN_eq {s : ByteArray} {l : List ByteArray} {k : Nat} (hk : k < l.length) (h : l.getD k ⟨#[]⟩ = s) (hm : ∀ j, j < k → l.getD j ⟨#[]⟩ ≠ s) : firstN s l = k := by
  have h1 := firstN_of hk h
  have h2 : ¬ firstN s l < k := fun hl => hm _ hl (firstN_at (Nat.lt_of_lt_of_le hl (Nat.le_of_lt hk)))
  omega
theorem firstN_ge {s : ByteArray} {l : List ByteArray} {k : Nat} (hk : k ≤ l.length) : k ≤ firstN s l ↔ ∀ j, j < k → l.getD j ⟨#[]⟩ ≠ s := by
  constructor
  · intro h j hj; exact firstN_min (by omega)
  · intro h
    rcases Nat.lt_or_ge (firstN s l) k with hl | hl
    · exact absurd (firstN_at (by omega)) (h _ hl)
    · exact hl
def sgNames (l : List Sg) : List ByteArray := l.map Sg.name
theorem sgNames_len (l : List Sg) : (sgNames l).length = l.length := List.length_map ..
theorem sgNames_at {l : List Sg} (k : Nat) (hk : k < l.length) : (sgNames l).getD k ⟨#[]⟩ = (l.getD k default).name := by
  simp [sgNames, List.getD, hk]
def findN (l : List Sg) (s : ByteArray) : Nat := firstN s (sgNames l)
def findZ (l : List Sg) (s : ByteArray) : Int := if findN l s < l.length then (findN l s : Int) else -1
/-- The product of the sizes. -/
def prodS : List Sg → Int
  | [] => 1
  | a :: l => a.size * prodS l
theorem prodS_append : ∀ l m : List Sg, prodS (l ++ m) = prodS l * prodS m
  | [], m => by simp [prodS]
  | a :: l, m => by simp only [List.cons_append, prodS, prodS_append l m, Int.mul_assoc]
def sgOk (l : List Sg) (i : Nat) : Bool := nameB (l.getD i default).name && decide (2 ≤ (l.getD i default).size) && decide ((l.getD i default).size ≤ 4) && decide (i ≤ findN l (l.getD i default).name)
def validS (l : List Sg) : Bool := decide (1 ≤ l.length) && decide (l.length ≤ 6) && allN l.length (sgOk l) && decide (prodS l ≤ 64)

def pastOp (o : Int) : Bool := decide (15 ≤ o) && decide (o ≤ 19)
/-- The error of a node. -/
def nodeErr (l : List Sg) (f : Fm) : Int :=
  if f.op = 3 then (if findN l f.name < l.length then (if (l.getD (findN l f.name) default).size ≤ f.val then 71 else 0) else 70)
  else if pastOp f.op then (if f.args.all (allB pastQ) then 0 else 72) else 0
/-- The first error of nodes. -/
def errL (l : List Sg) : List (Fm × Bool) → Int
  | [] => 0
  | x :: r => if nodeErr l x.1 = 0 then errL l r else nodeErr l x.1
def formErr (l : List Sg) (f : Fm) : Int :=
  if validS l then (if validB f then (if errL l (preL false f) = 0 then (if (kernZ f).2 = 0 then 0 else 2) else errL l (preL false f)) else 30) else 1
/-- A requirement. -/
structure Rq where
  part : ByteArray
  name : ByteArray
  kind : Int
  f : Fm
instance : Inhabited Rq := ⟨⟨⟨#[]⟩, ⟨#[]⟩, 0, default⟩⟩
def wordsOk (r : Rq) : Bool := (decide (r.kind = 1) || decide (r.kind = 2)) && nameB r.part && nameB r.name
def rqNames (rs : List Rq) : List ByteArray := rs.map Rq.name
theorem rqNames_len (l : List Rq) : (rqNames l).length = l.length := List.length_map ..
theorem rqNames_at {l : List Rq} (k : Nat) (hk : k < l.length) : (rqNames l).getD k ⟨#[]⟩ = (l.getD k default).name := by
  simp [rqNames, List.getD, hk]
def reqErr (l : List Sg) (rs : List Rq) (i : Nat) : Int :=
  if wordsOk (rs.getD i default) then (if firstN (rs.getD i default).name (rqNames rs) < i then 4 else formErr l (rs.getD i default).f) else 1
def faultsTo (l : List Sg) (rs : List Rq) (k : Nat) : List (Int × Int) := (List.range k).flatMap fun i => if reqErr l rs i = 0 then [] else [((i : Int), reqErr l rs i)]
def checkZ (l : List Sg) (rs : List Rq) : List (Int × Int) := if validS l then (if rs.length ≤ 16 then faultsTo l rs rs.length else [(-1, 2)]) else [(-1, 1)]
def partsZ (rs : List Rq) : List Fm := (rs.filter fun r => decide (r.kind = 1)).map fun r => notZ (kernZ r.f).1
def guarsZ (rs : List Rq) : List Fm := (rs.filter fun r => !decide (r.kind = 1)).map fun r => (kernZ r.f).1
def lastZ (rs : List Rq) : Fm × Int :=
  if (connZ 5 (guarsZ rs)).op = 0 then (zeroF, 2) else if (connZ 6 (partsZ rs ++ [connZ 5 (guarsZ rs)])).op = 0 then (zeroF, 2) else (connZ 6 (partsZ rs ++ [connZ 5 (guarsZ rs)]), 0)
def goalZ (l : List Sg) (rs : List Rq) : Fm × Int :=
  match checkZ l rs with
  | [] => lastZ rs
  | x :: _ => (zeroF, x.2)

/-! Nodes. -/
def errQ (l : List Sg) (x : Fm × Bool) : Bool := decide (nodeErr l x.1 = 0)
theorem errL_zero (l : List Sg) : ∀ L : List (Fm × Bool), errL l L = 0 ↔ L.all (errQ l) = true
  | [] => by simp [errL]
  | x :: r => by
    rw [errL, List.all_cons, Bool.and_eq_true, ← errL_zero l r]
    unfold errQ
    by_cases h : nodeErr l x.1 = 0
    · simp [h]
    · simp [h]
theorem errL_mem (l : List Sg) : ∀ {L : List (Fm × Bool)}, errL l L ≠ 0 → ∃ x, x ∈ L ∧ nodeErr l x.1 = errL l L
  | [], h => absurd rfl h
  | x :: r, h => by
    rw [errL] at h ⊢
    by_cases e : nodeErr l x.1 = 0
    · rw [if_pos e] at h ⊢
      obtain ⟨y, hy, h2⟩ := errL_mem l h
      exact ⟨y, by simp [hy], h2⟩
    · rw [if_neg e]
      exact ⟨x, by simp, rfl⟩
theorem nodeErr_is (l : List Sg) (f : Fm) : nodeErr l f = 0 ∨ nodeErr l f = 70 ∨ nodeErr l f = 71 ∨ nodeErr l f = 72 := by
  unfold nodeErr
  repeat' split
  all_goals simp
theorem errL_is (l : List Sg) (L : List (Fm × Bool)) : errL l L = 0 ∨ errL l L = 70 ∨ errL l L = 71 ∨ errL l L = 72 := by
  by_cases h : errL l L = 0
  · exact .inl h
  · obtain ⟨x, _, e⟩ := errL_mem l h
    rw [← e]; exact nodeErr_is l x.1
theorem formErr_ne4 (l : List Sg) (f : Fm) : formErr l f ≠ 4 := by
  unfold formErr
  have := errL_is l (preL false f)
  repeat' split
  all_goals omega
theorem formErr_zero {l : List Sg} {f : Fm} : formErr l f = 0 ↔ validS l = true ∧ validB f = true ∧ allB (errQ l) f = true ∧ (kernZ f).2 = 0 := by
  unfold formErr allB
  rw [← errL_zero]
  by_cases h1 : validS l = true
  · rw [if_pos h1]
    by_cases h2 : validB f = true
    · rw [if_pos h2]
      by_cases h3 : errL l (preL false f) = 0
      · rw [if_pos h3]
        by_cases h4 : (kernZ f).2 = 0
        · simp [h1, h2, h3, h4]
        · simp [h4]
      · rw [if_neg h3]; simp [h3]
    · rw [if_neg h2]; simp [h2]
  · rw [if_neg h1]; simp [h1]
/-- Whatever does not look at the flag holds with both or with none. -/
theorem all_flag {q : Fm × Bool → Bool} (hq : ∀ g a b, q (g, a) = q (g, b)) {a b : Bool} {f : Fm} (h : (preL a f).all q = true) : (preL b f).all q = true := by
  have hless : ∀ x, q (x, true) = true → q (x, false) = true := fun x h => by rw [hq x false true]; exact h
  have key : ∀ f : Fm, (preL false f).all q = true → (preL true f).all q = true := by
    intro f
    refine Fm.induct (P := fun f => (preL false f).all q = true → (preL true f).all q = true) ?_ f
    intro f ih h
    rw [preL_eq, List.all_cons, Bool.and_eq_true] at h ⊢
    refine ⟨by rw [hq f true false]; exact h.1, alls_of fun g hg => ?_⟩
    have h2 := alls_mem hg h.2
    obtain ⟨i, hi, rfl⟩ := List.getElem_of_mem hg
    have e : f.args.getD i default = f.args[i] := by simp [List.getD, hi]
    have ih := ih i hi
    rw [e] at ih
    simp only [Bool.true_or]
    cases hp : (false || (formZ f.op).past)
    · rw [hp] at h2; exact ih h2
    · rw [hp] at h2; exact h2
  have key2 : ∀ f : Fm, (preL true f).all q = true → (preL false f).all q = true := fun f h => all_less hless f h
  cases a <;> cases b
  · exact h
  · exact key f h
  · exact key2 f h
  · exact h
theorem errQ_flag (l : List Sg) : ∀ (g : Fm) (a b : Bool), errQ l (g, a) = errQ l (g, b) := fun _ _ _ => rfl
theorem pastQ_flag : ∀ (g : Fm) (a b : Bool), pastQ (g, a) = pastQ (g, b) := fun _ _ _ => rfl
theorem isPast_ops {o : Int} (h : (formZ o).past = true) : o = 15 ∨ o = 16 ∨ o = 17 ∨ o = 18 ∨ o = 19 := by
  unfold formZ at h
  split at h
  · rename_i h1
    unfold isOp at h1
    rw [Bool.and_eq_true, decide_eq_true_eq, decide_eq_true_eq] at h1
    have : o = 1 ∨ o = 2 ∨ o = 3 ∨ o = 4 ∨ o = 5 ∨ o = 6 ∨ o = 7 ∨ o = 8 ∨ o = 9 ∨ o = 10 ∨ o = 11 ∨ o = 12 ∨ o = 13 ∨ o = 14 ∨ o = 15 ∨ o = 16 ∨ o = 17 ∨ o = 18 ∨ o = 19 := by omega
    rcases this with rfl | rfl | rfl | rfl | rfl | rfl | rfl | rfl | rfl | rfl | rfl | rfl | rfl | rfl | rfl | rfl | rfl | rfl | rfl <;> first | exact absurd h (by decide) | omega
  · cases h
theorem nodeErr_past {l : List Sg} {f : Fm} (h : nodeErr l f = 0) (hp : (formZ f.op).past = true) : f.args.all (allB pastQ) = true := by
  have ho := isPast_ops hp
  unfold nodeErr at h
  rw [if_neg (by omega), if_pos (by unfold pastOp; rw [Bool.and_eq_true, decide_eq_true_eq, decide_eq_true_eq]; omega)] at h
  by_cases e : f.args.all (allB pastQ) = true
  · exact e
  · rw [if_neg e] at h; cases h
/-- What fits is layered. -/
theorem err_layered {l : List Sg} (f : Fm) : allB (errQ l) f = true → allB layQ f = true := by
  refine Fm.induct (P := fun f => allB (errQ l) f = true → allB layQ f = true) ?_ f
  intro f ih h
  have h0 := allB_root h
  unfold allB at h ⊢
  rw [preL_eq, List.all_cons, Bool.and_eq_true] at h ⊢
  refine ⟨by unfold layQ; simp, alls_of fun g hg => ?_⟩
  have h2 := alls_mem hg h.2
  cases hp : (false || (formZ f.op).past)
  · rw [hp] at h2
    obtain ⟨i, hi, rfl⟩ := List.getElem_of_mem hg
    have e : f.args.getD i default = f.args[i] := by simp [List.getD, hi]
    have ih := ih i hi
    rw [e] at ih
    exact ih h2
  · have hp' : (formZ f.op).past = true := by simpa using hp
    have h3 := nodeErr_past (of_decide_eq_true h0) hp'
    rw [List.all_eq_true] at h3
    have h4 := all_flag pastQ_flag (b := true) (h3 g hg)
    rw [List.all_eq_true] at h4 ⊢
    intro x hx
    have := h4 x hx
    unfold pastQ at this
    unfold layQ
    simp only [Bool.not_eq_true'] at this
    rw [this]; rfl
theorem err_arg {l : List Sg} {f g : Fm} (hg : g ∈ f.args) (h : allB (errQ l) f = true) : allB (errQ l) g = true := allB_arg (q := errQ l) (fun _ h => h) hg h
/-- All names of a formula that fits are those of signals. -/
theorem err_names {l : List Sg} {f : Fm} (h : allB (errQ l) f = true) {s : ByteArray} (hs : s ∈ namesF f) : findN l s < l.length := by
  rw [namesF_mem] at hs
  unfold namesPre namesIn at hs
  obtain ⟨x, hx, rfl⟩ := List.mem_map.1 hs
  rw [List.mem_filter] at hx
  have h1 := List.all_eq_true.1 h x hx.1
  have h2 := of_decide_eq_true h1
  have h3 := of_decide_eq_true hx.2
  unfold nodeErr at h2
  rw [if_pos h3] at h2
  by_cases e : findN l x.1.name < l.length
  · exact e
  · rw [if_neg e] at h2; cases h2
theorem err_findZ {l : List Sg} {f : Fm} (h : allB (errQ l) f = true) {s : ByteArray} (hs : s ∈ namesF f) : 0 ≤ findZ l s := by
  unfold findZ
  rw [if_pos (err_names h hs)]; omega
end Go.Proofs.YtdakdpfofgkjoaaDoor
set_option linter.unusedVariables false
set_option linter.unusedSimpArgs false
namespace Go.Proofs.YtdakdpfofgkjoaaDoor

/-! Conjunctions and disjunctions. -/
theorem zero_notloose : looseB zeroF = false := by
  cases h : looseB zeroF
  · rfl
  · have h1 := bareQ_nz _ (allI_iff.1 (loose_out h).2.2).1
    exact absurd h1 (by decide)
theorem loose_op {f : Fm} (h : looseB f = true) : f.op ≠ 0 := by
  have h1 := bareQ_nz _ (allI_iff.1 (loose_out h).2.2).1
  simpa [nzQ] using h1
theorem connZ_ok {op : Int} (hop : op = 5 ∨ op = 6) {l : List Fm} (h : (connZ op l).op ≠ 0) :
    (∀ g, g ∈ l → looseB g = true) ∧ looseB (connZ op l) = true ∧ Can (connZ op l) ∧ connZ op l = joinZ op (l.map canonZ) := by
  unfold connZ at h ⊢
  by_cases h1 : l.all looseB = true
  · rw [if_pos h1] at h ⊢
    by_cases h2 : looseB (joinZ op (l.map canonZ)) = true
    · rw [if_pos h2]
      have h3 := List.all_eq_true.1 h1
      exact ⟨h3, h2, joinZ_can hop fun g hg => by
        obtain ⟨x, hx, rfl⟩ := List.mem_map.1 hg
        exact loose_can (h3 x hx), rfl⟩
    · rw [if_neg h2] at h
      exact absurd rfl h
  · rw [if_neg h1] at h
    exact absurd rfl h
theorem connZ_perm {op : Int} {l m : List Fm} (h : ∀ x, x ∈ l ↔ x ∈ m) : connZ op l = connZ op m := by
  have e1 : l.all looseB = m.all looseB := by
    rw [Bool.eq_iff_iff, List.all_eq_true, List.all_eq_true]
    exact ⟨fun k x hx => k x ((h x).2 hx), fun k x hx => k x ((h x).1 hx)⟩
  have e2 : joinZ op (l.map canonZ) = joinZ op (m.map canonZ) := joinZ_perm fun x => by
    rw [List.mem_map, List.mem_map]
    exact ⟨fun ⟨y, hy, e⟩ => ⟨y, (h y).1 hy, e⟩, fun ⟨y, hy, e⟩ => ⟨y, (h y).2 hy, e⟩⟩
  unfold connZ
  rw [e1, e2]
theorem leaf_loose {o : Int} (h : o = 1 ∨ o = 2) : looseB (opF o []) = true := loose_of (by rw [leaf_size]; omega) (by rw [leaf_depth]; omega) (allI_leaf h)
theorem connZ_unit {op : Int} (hop : op = 5 ∨ op = 6) (l : List Fm) : connZ op (opF (unitZ op) [] :: l) = connZ op l := by
  have e1 : (opF (unitZ op) [] :: l).all looseB = l.all looseB := by rw [List.all_cons, leaf_loose (unit_12 op), Bool.true_and]
  have e2 : joinZ op ((opF (unitZ op) [] :: l).map canonZ) = joinZ op (l.map canonZ) := by
    rw [List.map_cons, canonZ_leaf (unit_12 op)]
    exact joinZ_unit0 hop _
  unfold connZ
  rw [e1, e2]
theorem connZ_zero {op : Int} (hop : op = 5 ∨ op = 6) {l : List Fm} (h : ∀ g, g ∈ l → looseB g = true) (hz : opF (zeroZ op) [] ∈ l) : connZ op l = opF (zeroZ op) [] := by
  have e2 : joinZ op (l.map canonZ) = opF (zeroZ op) [] := join_zero (List.mem_map.2 ⟨_, hz, canonZ_leaf (zero_12 op)⟩)
  unfold connZ
  rw [if_pos (List.all_eq_true.2 h), e2, if_pos (leaf_loose (zero_12 op))]
theorem connZ_one {op : Int} (hop : op = 5 ∨ op = 6) {c : Fm} (h : looseB c = true) (hc : Can c) : connZ op [c] = c := by
  have e2 : joinZ op ([c].map canonZ) = c := by
    rw [List.map_cons, hc.canonZ]; exact joinZ_one hop hc
  unfold connZ
  rw [if_pos (by simp [h]), e2, if_pos h]

/-! Check. -/
structure Good (l : List Sg) (rs : List Rq) : Prop where
  valid : validS l = true
  len : rs.length ≤ 16
  words : ∀ r, r ∈ rs → wordsOk r = true
  fits : ∀ r, r ∈ rs → formErr l r.f = 0
  names : (rqNames rs).Nodup
theorem getD_mem {α : Type} [Inhabited α] {l : List α} {i : Nat} (h : i < l.length) : l.getD i default ∈ l := by
  simp [List.getD, h]
theorem mem_getD {α : Type} [Inhabited α] {l : List α} {x : α} (h : x ∈ l) : ∃ i, i < l.length ∧ l.getD i default = x := by
  obtain ⟨i, hi, rfl⟩ := List.getElem_of_mem h
  exact ⟨i, hi, by simp [List.getD, hi]⟩
theorem nodup_first {L : List ByteArray} : L.Nodup ↔ ∀ i, i < L.length → i ≤ firstN (L.getD i ⟨#[]⟩) L := by
  unfold List.Nodup
  rw [List.pairwise_iff_getElem]
  constructor
  · intro h i hi
    rw [firstN_ge (Nat.le_of_lt hi)]
    intro j hj e
    have := h j i (by omega) hi hj
    simp [List.getD, hi, show j < L.length by omega] at e
    exact this e
  · intro h i j hi hj hij e
    have := (firstN_ge (Nat.le_of_lt hj)).1 (h j hj) i hij
    simp [List.getD, hi, hj] at this
    exact this e
theorem reqErr_zero {l : List Sg} {rs : List Rq} {i : Nat} (hi : i < rs.length) : reqErr l rs i = 0 ↔ wordsOk (rs.getD i default) = true ∧ i ≤ firstN (rs.getD i default).name (rqNames rs) ∧ formErr l (rs.getD i default).f = 0 := by
  unfold reqErr
  by_cases h1 : wordsOk (rs.getD i default) = true
  · rw [if_pos h1]
    by_cases h2 : firstN (rs.getD i default).name (rqNames rs) < i
    · rw [if_pos h2]
      constructor
      · intro h; cases h
      · intro h; omega
    · rw [if_neg h2]
      exact ⟨fun h => ⟨h1, by omega, h⟩, fun h => h.2.2⟩
  · rw [if_neg h1]
    constructor
    · intro h; cases h
    · intro h; exact absurd h.1 h1
theorem faultsTo_nil {l : List Sg} {rs : List Rq} {k : Nat} : faultsTo l rs k = [] ↔ ∀ i, i < k → reqErr l rs i = 0 := by
  unfold faultsTo
  rw [List.flatMap_eq_nil_iff]
  constructor
  · intro h i hi
    have := h i (List.mem_range.2 hi)
    by_cases e : reqErr l rs i = 0
    · exact e
    · rw [if_neg e] at this; cases this
  · intro h i hi
    rw [if_pos (h i (List.mem_range.1 hi))]
theorem faultsTo_succ (l : List Sg) (rs : List Rq) (k : Nat) : faultsTo l rs (k + 1) = faultsTo l rs k ++ (if reqErr l rs k = 0 then [] else [((k : Int), reqErr l rs k)]) := by
  unfold faultsTo
  rw [List.range_succ, List.flatMap_append]
  simp
theorem faultsTo_len (l : List Sg) (rs : List Rq) : ∀ k, (faultsTo l rs k).length ≤ k
  | 0 => by simp [faultsTo]
  | k + 1 => by
    rw [faultsTo_succ, List.length_append]
    have := faultsTo_len l rs k
    split
    · simp; omega
    · simp; omega
theorem check_nil {l : List Sg} {rs : List Rq} : checkZ l rs = [] ↔ Good l rs := by
  unfold checkZ
  by_cases h1 : validS l = true
  · rw [if_pos h1]
    by_cases h2 : rs.length ≤ 16
    · rw [if_pos h2, faultsTo_nil]
      constructor
      · intro h
        refine ⟨h1, h2, fun r hr => ?_, fun r hr => ?_, nodup_first.2 fun i hi => ?_⟩
        · obtain ⟨i, hi, rfl⟩ := mem_getD hr
          exact ((reqErr_zero hi).1 (h i hi)).1
        · obtain ⟨i, hi, rfl⟩ := mem_getD hr
          exact ((reqErr_zero hi).1 (h i hi)).2.2
        · rw [rqNames_len] at hi
          rw [rqNames_at i hi]
          exact ((reqErr_zero hi).1 (h i hi)).2.1
      · intro h i hi
        rw [reqErr_zero hi]
        refine ⟨h.words _ (getD_mem hi), ?_, h.fits _ (getD_mem hi)⟩
        have := nodup_first.1 h.names i (by rw [rqNames_len]; exact hi)
        rw [rqNames_at i hi] at this
        exact this
    · rw [if_neg h2]
      exact ⟨(fun h => by cases h), fun h => absurd h.len h2⟩
  · rw [if_neg h1]
    exact ⟨(fun h => by cases h), fun h => absurd h.valid h1⟩
theorem goal_good {l : List Sg} {rs : List Rq} (h : Good l rs) : goalZ l rs = lastZ rs := by
  unfold goalZ
  rw [check_nil.2 h]
theorem goal_ok {l : List Sg} {rs : List Rq} (h : (goalZ l rs).2 = 0) : Good l rs := by
  rw [← check_nil]
  cases hc : checkZ l rs with
  | nil => rfl
  | cons x L =>
    unfold goalZ at h
    rw [hc] at h
    have hx : x ∈ checkZ l rs := by rw [hc]; simp
    unfold checkZ at hx
    split at hx
    · split at hx
      · unfold faultsTo at hx
        rw [List.mem_flatMap] at hx
        obtain ⟨i, hi, hx⟩ := hx
        split at hx
        · cases hx
        · rename_i h3
          rw [List.mem_singleton] at hx
          subst hx
          exact absurd h h3
      · rw [List.mem_singleton] at hx
        subst hx
        have h : (2 : Int) = 0 := h
        omega
    · rw [List.mem_singleton] at hx
      subst hx
      have h : (1 : Int) = 0 := h
      omega
theorem goal_err {l : List Sg} {rs : List Rq} (h : (goalZ l rs).2 ≠ 0) : (goalZ l rs).1 = zeroF := by
  unfold goalZ at h ⊢
  cases hc : checkZ l rs with
  | cons x L => rfl
  | nil =>
    rw [hc] at h
    simp only at h ⊢
    unfold lastZ at h ⊢
    by_cases h1 : (connZ 5 (guarsZ rs)).op = 0
    · rw [if_pos h1]
    · rw [if_neg h1] at h ⊢
      by_cases h2 : (connZ 6 (partsZ rs ++ [connZ 5 (guarsZ rs)])).op = 0
      · rw [if_pos h2]
      · rw [if_neg h2] at h
        exact absurd rfl h

/-! Subformulas. -/
/-- A formula that fits but for the size of its kernel. -/
def FitsN (l : List Sg) (f : Fm) : Prop := validS l = true ∧ validB f = true ∧ allB (errQ l) f = true
theorem FitsN.of {l : List Sg} {f : Fm} (h : formErr l f = 0) : FitsN l f := by
  have := formErr_zero.1 h
  exact ⟨this.1, this.2.1, this.2.2.1⟩
theorem FitsN.arg {l : List Sg} {f g : Fm} (h : FitsN l f) (hg : g ∈ f.args) : FitsN l g := ⟨h.1, valid_arg hg h.2.1, err_arg hg h.2.2⟩
theorem FitsN.err {l : List Sg} {f : Fm} (h : FitsN l f) : formErr l f = 0 ∨ formErr l f = 2 := by
  unfold formErr
  rw [if_pos h.1, if_pos h.2.1, if_pos ((errL_zero l _).2 h.2.2)]
  split <;> simp
theorem errQ_not {l : List Sg} {f : Fm} (h : allB (errQ l) f = true) : allB (errQ l) (opF 4 [f]) = true := by
  unfold allB at h ⊢
  rw [preL_eq, List.all_cons, Bool.and_eq_true]
  refine ⟨decide_eq_true (show nodeErr l (opF 4 [f]) = 0 from rfl), ?_⟩
  exact alls_of fun g hg => by
    have : g = f := List.mem_singleton.1 hg
    rw [this]
    exact h
theorem not_err {l : List Sg} {f : Fm} (h : FitsN l f) : formErr l (opF 4 [f]) = 0 ∨ formErr l (opF 4 [f]) = 2 ∨ (validB (opF 4 [f]) = false ∧ formErr l (opF 4 [f]) = 30) := by
  cases hv : validB (opF 4 [f])
  · refine .inr (.inr ⟨rfl, ?_⟩)
    unfold formErr
    rw [if_pos h.1, hv]; rfl
  · rcases FitsN.err (f := opF 4 [f]) ⟨h.1, hv, errQ_not h.2.2⟩ with e | e
    · exact .inl e
    · exact .inr (.inl e)

/-! A further signal. -/
theorem valid_nodup {l : List Sg} (h : validS l = true) : (sgNames l).Nodup := by
  rw [nodup_first]
  intro i hi
  rw [sgNames_len] at hi
  rw [sgNames_at i hi]
  unfold validS at h
  simp only [Bool.and_eq_true] at h
  have := allN_true.1 h.1.2 i hi
  unfold sgOk at this
  simp only [Bool.and_eq_true, decide_eq_true_eq] at this
  exact this.2
theorem first_nodup {L : List ByteArray} (h : L.Nodup) {i : Nat} (hi : i < L.length) : firstN (L.getD i ⟨#[]⟩) L = i := by
  have h1 := nodup_first.1 h i hi
  have h2 := firstN_of hi (rfl : L.getD i ⟨#[]⟩ = _)
  omega
theorem nodeErr_wide {l m : List Sg} (hm : validS m = true) (hs : ∀ x, x ∈ l → x ∈ m) {f : Fm} (h : nodeErr l f = 0) : nodeErr m f = 0 := by
  unfold nodeErr at h ⊢
  by_cases h3 : f.op = 3
  · rw [if_pos h3] at h ⊢
    by_cases h1 : findN l f.name < l.length
    · rw [if_pos h1] at h
      have hx := hs _ (getD_mem h1)
      obtain ⟨j, hj, e⟩ := mem_getD hx
      have hn : (l.getD (findN l f.name) default).name = f.name := by
        have := firstN_at (s := f.name) (l := sgNames l) (by rw [sgNames_len]; exact h1)
        have h1' : findN l f.name < l.length := h1
        exact (sgNames_at (l := l) (findN l f.name) h1').symm.trans this
      have hf : findN m f.name = j := by
        have := first_nodup (valid_nodup hm) (i := j) (by rw [sgNames_len]; exact hj)
        rw [sgNames_at j hj, e, hn] at this
        exact this
      rw [hf, if_pos hj, e]
      by_cases h2 : (l.getD (findN l f.name) default).size ≤ f.val
      · rw [if_pos h2] at h; cases h
      · rw [if_neg h2]
    · rw [if_neg h1] at h; cases h
  · rw [if_neg h3] at h ⊢; exact h
theorem formErr_wide {l m : List Sg} (hm : validS m = true) (hs : ∀ x, x ∈ l → x ∈ m) {f : Fm} (h : formErr l f = 0) : formErr m f = 0 := by
  rw [formErr_zero] at h ⊢
  refine ⟨hm, h.2.1, ?_, h.2.2.2⟩
  have h3 := h.2.2.1
  unfold allB at h3 ⊢
  rw [List.all_eq_true] at h3 ⊢
  intro x hx
  exact decide_eq_true (nodeErr_wide hm hs (of_decide_eq_true (h3 x hx)))
end Go.Proofs.YtdakdpfofgkjoaaDoor
set_option linter.unusedVariables false
set_option linter.unusedSimpArgs false
namespace Go.Proofs.YtdakdpfofgkjoaaDoor

theorem faultsTo_ext (l : List Sg) (rs : List Rq) (i : Nat) : ∀ m, ∃ G, faultsTo l rs (i + m) = faultsTo l rs i ++ G ∧ ∀ x, x ∈ G → (i : Int) ≤ x.1
  | 0 => ⟨[], by simp, fun x h => by cases h⟩
  | m + 1 => by
    obtain ⟨G, h1, h2⟩ := faultsTo_ext l rs i m
    refine ⟨G ++ (if reqErr l rs (i + m) = 0 then [] else [(((i + m : Nat) : Int), reqErr l rs (i + m))]), by rw [← Nat.add_assoc, faultsTo_succ, h1, List.append_assoc], fun x hx => ?_⟩
    rw [List.mem_append] at hx
    rcases hx with hx | hx
    · exact h2 x hx
    · split at hx
      · cases hx
      · rw [List.mem_singleton] at hx
        subst hx
        show (i : Int) ≤ ((i + m : Nat) : Int)
        omega
theorem fault_yes {l : List Sg} {rs : List Rq} {i n : Nat} (hi : i < n) (h : reqErr l rs i ≠ 0) : (faultsTo l rs i).length < (faultsTo l rs n).length ∧ (faultsTo l rs n).getD (faultsTo l rs i).length (0, 0) = ((i : Int), reqErr l rs i) := by
  obtain ⟨G, e, _⟩ := faultsTo_ext l rs (i + 1) (n - (i + 1))
  rw [show i + 1 + (n - (i + 1)) = n by omega, faultsTo_succ, if_neg h] at e
  rw [e]
  constructor
  · simp only [List.length_append, List.length_cons]; omega
  · simp [List.getD]
theorem fault_no {l : List Sg} {rs : List Rq} {i n : Nat} (hi : i < n) (h : reqErr l rs i = 0) (hk : (faultsTo l rs i).length < (faultsTo l rs n).length) : ((faultsTo l rs n).getD (faultsTo l rs i).length (0, 0)).1 ≠ (i : Int) := by
  obtain ⟨G, e, h2⟩ := faultsTo_ext l rs (i + 1) (n - (i + 1))
  rw [show i + 1 + (n - (i + 1)) = n by omega, faultsTo_succ, if_pos h, List.append_nil] at e
  rw [e] at hk ⊢
  rw [List.length_append] at hk
  have hG : (faultsTo l rs i ++ G).getD (faultsTo l rs i).length (0, 0) ∈ G := by
    have : 0 < G.length := by omega
    simp [List.getD, this]
  have := h2 _ hG
  omega
/-- The error of a requirement that stands alone. -/
def aloneE (l : List Sg) (r : Rq) : Int := if wordsOk r then formErr l r.f else 1
theorem alone_req (l : List Sg) (r : Rq) : reqErr l [r] 0 = aloneE l r := by
  unfold reqErr aloneE
  show (if wordsOk r = true then (if firstN r.name _ < 0 then 4 else formErr l r.f) else 1) = _
  rw [if_neg (Nat.not_lt_zero _)]
theorem check_alone {l : List Sg} (h : validS l = true) (r : Rq) : checkZ l [r] = if aloneE l r = 0 then [] else [(0, aloneE l r)] := by
  unfold checkZ
  rw [if_pos h, if_pos (by simp)]
  show faultsTo l [r] 1 = _
  rw [faultsTo_succ, alone_req]
  rfl
theorem reqErr_alone {l : List Sg} {rs : List Rq} {i : Nat} (h : reqErr l rs i ≠ 4) : reqErr l rs i = aloneE l (rs.getD i default) := by
  unfold reqErr aloneE at *
  by_cases h1 : wordsOk (rs.getD i default) = true
  · rw [if_pos h1] at h ⊢
    rw [if_pos h1]
    by_cases h2 : firstN (rs.getD i default).name (rqNames rs) < i
    · rw [if_pos h2] at h; exact absurd rfl h
    · rw [if_neg h2]
  · rw [if_neg h1, if_neg h1]
def goodTo (l : List Sg) (rs : List Rq) (k : Nat) : List Rq := (List.range k).flatMap fun i => if reqErr l rs i = 0 then [rs.getD i default] else []
theorem goodTo_succ (l : List Sg) (rs : List Rq) (k : Nat) : goodTo l rs (k + 1) = goodTo l rs k ++ (if reqErr l rs k = 0 then [rs.getD k default] else []) := by
  unfold goodTo
  rw [List.range_succ, List.flatMap_append]
  simp
theorem goodTo_len (l : List Sg) (rs : List Rq) : ∀ k, (goodTo l rs k).length ≤ k
  | 0 => by simp [goodTo]
  | k + 1 => by
    rw [goodTo_succ, List.length_append]
    have := goodTo_len l rs k
    split
    · simp; omega
    · simp; omega
theorem goodTo_mem {l : List Sg} {rs : List Rq} {k : Nat} {r : Rq} (h : r ∈ goodTo l rs k) : ∃ i, i < k ∧ reqErr l rs i = 0 ∧ r = rs.getD i default := by
  unfold goodTo at h
  rw [List.mem_flatMap] at h
  obtain ⟨i, hi, h⟩ := h
  split at h
  · rename_i h0
    rw [List.mem_singleton] at h
    exact ⟨i, List.mem_range.1 hi, h0, h⟩
  · cases h
theorem good_names {l : List Sg} {rs : List Rq} : ∀ k, k ≤ rs.length → (rqNames (goodTo l rs k)).Nodup
  | 0, _ => List.Pairwise.nil
  | k + 1, hk => by
    rw [goodTo_succ]
    by_cases h : reqErr l rs k = 0
    · rw [if_pos h]
      unfold rqNames
      rw [List.map_append, List.nodup_append]
      refine ⟨good_names k (by omega), by simp, ?_⟩
      intro a ha b hb e
      subst e
      rw [List.map_cons, List.map_nil, List.mem_singleton] at hb
      obtain ⟨r, hr, e⟩ := List.mem_map.1 ha
      obtain ⟨i, hi, _, rfl⟩ := goodTo_mem hr
      have h2 := ((reqErr_zero (by omega)).1 h).2.1
      have h3 := (firstN_ge (by rw [rqNames_len]; omega)).1 h2 i hi
      rw [rqNames_at i (by omega)] at h3
      exact h3 (by rw [e, hb])
    · rw [if_neg h, List.append_nil]
      exact good_names k (by omega)
theorem good_good {l : List Sg} {rs : List Rq} (hv : validS l = true) (hl : rs.length ≤ 16) : checkZ l (goodTo l rs rs.length) = [] := by
  rw [check_nil]
  refine ⟨hv, Nat.le_trans (goodTo_len _ _ _) hl, fun r hr => ?_, fun r hr => ?_, good_names _ (Nat.le_refl _)⟩
  · obtain ⟨i, hi, h0, rfl⟩ := goodTo_mem hr
    exact ((reqErr_zero hi).1 h0).1
  · obtain ⟨i, hi, h0, rfl⟩ := goodTo_mem hr
    exact ((reqErr_zero hi).1 h0).2.2

/-! The goal. -/
def sOther : ByteArray := ⟨#[111, 116, 104, 101, 114]⟩
def sTruth : ByteArray := ⟨#[116, 114, 117, 116, 104]⟩
/-- The new name of requirement i. -/
def nm (i : Nat) : ByteArray := ⟨#[UInt8.ofNat (97 + i), 95, 120]⟩
def ren (i : Nat) (r : Rq) : Rq := ⟨sOther, nm i, r.kind, r.f⟩
/-- The first k of the requirements in the opposite order. -/
def backZ (rs : List Rq) (k : Nat) : List Rq := (List.range k).map fun j => ren (rs.length - 1 - j) (rs.getD (rs.length - 1 - j) default)
theorem backZ_succ (rs : List Rq) (k : Nat) : backZ rs (k + 1) = backZ rs k ++ [ren (rs.length - 1 - k) (rs.getD (rs.length - 1 - k) default)] := by
  unfold backZ
  rw [List.range_succ, List.map_append]; rfl
theorem backZ_len (rs : List Rq) (k : Nat) : (backZ rs k).length = k := by simp [backZ]
theorem name_other : nameB sOther = true := by unfold nameB sOther; simp only [ByteArray.toList_eq]; decide
theorem name_truth : nameB sTruth = true := by unfold nameB sTruth; simp only [ByteArray.toList_eq]; decide
theorem name_nm {i : Nat} (h : i < 14) : nameB (nm i) = true := by
  unfold nameB nm
  simp only [ByteArray.toList_eq]
  match i, h with
  | 0, _ => decide
  | 1, _ => decide
  | 2, _ => decide
  | 3, _ => decide
  | 4, _ => decide
  | 5, _ => decide
  | 6, _ => decide
  | 7, _ => decide
  | 8, _ => decide
  | 9, _ => decide
  | 10, _ => decide
  | 11, _ => decide
  | 12, _ => decide
  | 13, _ => decide
theorem nm_inj {i j : Nat} (hi : i < 14) (hj : j < 14) (h : nm i = nm j) : i = j := by
  unfold nm at h
  have h1 := congrArg (fun s : ByteArray => (s.data[0]?.getD 0).toNat) h
  simp at h1
  omega
theorem nm_truth (i : Nat) : nm i ≠ sTruth := by
  unfold nm sTruth
  intro h
  have h1 : (3 : Nat) = 5 := congrArg ByteArray.size h
  omega
theorem back_mem {rs : List Rq} {r : Rq} : r ∈ backZ rs rs.length ↔ ∃ i, i < rs.length ∧ r = ren i (rs.getD i default) := by
  unfold backZ
  rw [List.mem_map]
  constructor
  · rintro ⟨j, hj, rfl⟩
    have := List.mem_range.1 hj
    exact ⟨rs.length - 1 - j, by omega, rfl⟩
  · rintro ⟨i, hi, rfl⟩
    refine ⟨rs.length - 1 - i, List.mem_range.2 (by omega), ?_⟩
    rw [show rs.length - 1 - (rs.length - 1 - i) = i by omega]
theorem back_nodup {rs : List Rq} (h : rs.length ≤ 14) : ∀ k, k ≤ rs.length → (rqNames (backZ rs k)).Nodup
  | 0, _ => List.Pairwise.nil
  | k + 1, hk => by
    rw [backZ_succ]
    unfold rqNames
    rw [List.map_append, List.nodup_append]
    refine ⟨back_nodup h k (by omega), by simp, ?_⟩
    intro a ha b hb e
    subst e
    rw [List.map_cons, List.map_nil, List.mem_singleton] at hb
    obtain ⟨r, hr, e⟩ := List.mem_map.1 ha
    unfold backZ at hr
    obtain ⟨j, hj, rfl⟩ := List.mem_map.1 hr
    have hj := List.mem_range.1 hj
    rw [hb] at e
    have := nm_inj (i := rs.length - 1 - j) (j := rs.length - 1 - k) (by omega) (by omega) e
    omega
theorem words_ren {r : Rq} (h : wordsOk r = true) {i : Nat} (hi : i < 14) : wordsOk (ren i r) = true := by
  unfold wordsOk at h ⊢
  simp only [Bool.and_eq_true] at h ⊢
  exact ⟨⟨h.1.1, name_other⟩, name_nm hi⟩
theorem good_back {l : List Sg} {rs : List Rq} (h : Good l rs) (hl : rs.length ≤ 14) : Good l (backZ rs rs.length) := by
  refine ⟨h.valid, by rw [backZ_len]; omega, fun r hr => ?_, fun r hr => ?_, back_nodup hl _ (Nat.le_refl _)⟩
  · obtain ⟨i, hi, rfl⟩ := back_mem.1 hr
    exact words_ren (h.words _ (getD_mem hi)) (by omega)
  · obtain ⟨i, hi, rfl⟩ := back_mem.1 hr
    exact h.fits (rs.getD i default) (getD_mem hi)
/-- The requirement that is added. -/
def addR (k o : Int) : Rq := ⟨sOther, sTruth, k, opF o []⟩
theorem leaf_valid {o : Int} (h : o = 1 ∨ o = 2) : validB (opF o []) = true ∧ allB layQ (opF o []) = true := by
  have hk : kernelB (opF o []) = true := kernel_of (by rw [leaf_size]; omega) (by rw [leaf_depth]; omega) (allI_leaf h)
  exact kernel_valid hk
theorem leaf_kern {o : Int} (h : o = 1 ∨ o = 2) : kernZ (opF o []) = (opF o [], 0) := by
  have h1 := leaf_valid h
  have e : kf false (opF o []) = opF o [] := kf_self _ false (allI_leaf h)
  unfold kernZ layB
  rw [h1.1, h1.2, e, if_pos (show (true && true) = true from rfl), if_pos (by rw [fits_true]; rw [leaf_size, leaf_depth]; omega)]
theorem leaf_not : notZ (opF 1 []) = opF 2 [] ∧ notZ (opF 2 []) = opF 1 [] := by
  constructor
  · unfold notZ; rw [leaf_loose (.inl rfl)]; rfl
  · unfold notZ; rw [leaf_loose (.inr rfl)]; rfl
theorem leaf_err {l : List Sg} (hv : validS l = true) {o : Int} (h : o = 1 ∨ o = 2) : formErr l (opF o []) = 0 := by
  rw [formErr_zero]
  refine ⟨hv, (leaf_valid h).1, ?_, by rw [leaf_kern h]⟩
  unfold allB
  rw [preL_eq]
  rcases h with rfl | rfl <;> rfl
theorem good_add {l : List Sg} {rs : List Rq} (h : Good l rs) (hl : rs.length ≤ 14) {k o : Int} (hk : k = 1 ∨ k = 2) (ho : o = 1 ∨ o = 2) : Good l (backZ rs rs.length ++ [addR k o]) := by
  have hb := good_back h hl
  refine ⟨h.valid, by rw [List.length_append, backZ_len]; simp; omega, fun r hr => ?_, fun r hr => ?_, ?_⟩
  · rw [List.mem_append, List.mem_singleton] at hr
    rcases hr with hr | rfl
    · exact hb.words r hr
    · unfold wordsOk addR
      simp only [Bool.and_eq_true, Bool.or_eq_true, decide_eq_true_eq]
      exact ⟨⟨hk, name_other⟩, name_truth⟩
  · rw [List.mem_append, List.mem_singleton] at hr
    rcases hr with hr | rfl
    · exact hb.fits r hr
    · exact leaf_err h.valid ho
  · unfold rqNames
    rw [List.map_append, List.nodup_append]
    refine ⟨hb.names, by simp, ?_⟩
    intro a ha b hb2 e
    subst e
    rw [List.map_cons, List.map_nil, List.mem_singleton] at hb2
    obtain ⟨r, hr, e⟩ := List.mem_map.1 ha
    obtain ⟨i, hi, rfl⟩ := back_mem.1 hr
    rw [hb2] at e
    exact nm_truth i e
theorem parts_mem {rs : List Rq} {x : Fm} : x ∈ partsZ rs ↔ ∃ r, r ∈ rs ∧ r.kind = 1 ∧ x = notZ (kernZ r.f).1 := by
  unfold partsZ
  rw [List.mem_map]
  constructor
  · rintro ⟨r, hr, rfl⟩
    rw [List.mem_filter, decide_eq_true_eq] at hr
    exact ⟨r, hr.1, hr.2, rfl⟩
  · rintro ⟨r, h1, h2, rfl⟩
    exact ⟨r, List.mem_filter.2 ⟨h1, decide_eq_true h2⟩, rfl⟩
theorem guars_mem {rs : List Rq} {x : Fm} : x ∈ guarsZ rs ↔ ∃ r, r ∈ rs ∧ r.kind ≠ 1 ∧ x = (kernZ r.f).1 := by
  unfold guarsZ
  rw [List.mem_map]
  constructor
  · rintro ⟨r, hr, rfl⟩
    rw [List.mem_filter] at hr
    exact ⟨r, hr.1, by simpa using hr.2, rfl⟩
  · rintro ⟨r, h1, h2, rfl⟩
    exact ⟨r, List.mem_filter.2 ⟨h1, by simpa using h2⟩, rfl⟩
theorem parts_back (rs : List Rq) (x : Fm) : x ∈ partsZ (backZ rs rs.length) ↔ x ∈ partsZ rs := by
  rw [parts_mem, parts_mem]
  constructor
  · rintro ⟨r, hr, h1, rfl⟩
    obtain ⟨i, hi, rfl⟩ := back_mem.1 hr
    exact ⟨_, getD_mem hi, h1, rfl⟩
  · rintro ⟨r, hr, h1, rfl⟩
    obtain ⟨i, hi, rfl⟩ := mem_getD hr
    exact ⟨_, back_mem.2 ⟨i, hi, rfl⟩, h1, rfl⟩
theorem guars_back (rs : List Rq) (x : Fm) : x ∈ guarsZ (backZ rs rs.length) ↔ x ∈ guarsZ rs := by
  rw [guars_mem, guars_mem]
  constructor
  · rintro ⟨r, hr, h1, rfl⟩
    obtain ⟨i, hi, rfl⟩ := back_mem.1 hr
    exact ⟨_, getD_mem hi, h1, rfl⟩
  · rintro ⟨r, hr, h1, rfl⟩
    obtain ⟨i, hi, rfl⟩ := mem_getD hr
    exact ⟨_, back_mem.2 ⟨i, hi, rfl⟩, h1, rfl⟩
theorem lastZ_congr {rs ss : List Rq} (h1 : connZ 5 (guarsZ rs) = connZ 5 (guarsZ ss)) (h2 : connZ 6 (partsZ rs ++ [connZ 5 (guarsZ rs)]) = connZ 6 (partsZ ss ++ [connZ 5 (guarsZ rs)])) : lastZ rs = lastZ ss := by
  unfold lastZ
  rw [h2, ← h1]
theorem last_back (rs : List Rq) : lastZ (backZ rs rs.length) = lastZ rs :=
  lastZ_congr (connZ_perm (guars_back rs)) (connZ_perm fun x => by rw [List.mem_append, List.mem_append, parts_back])
theorem last_ok {rs : List Rq} (h : (lastZ rs).2 = 0) : (connZ 5 (guarsZ rs)).op ≠ 0 ∧ (connZ 6 (partsZ rs ++ [connZ 5 (guarsZ rs)])).op ≠ 0 ∧ (lastZ rs).1 = connZ 6 (partsZ rs ++ [connZ 5 (guarsZ rs)]) := by
  unfold lastZ at h ⊢
  by_cases h1 : (connZ 5 (guarsZ rs)).op = 0
  · rw [if_pos h1] at h; cases h
  · rw [if_neg h1] at h ⊢
    by_cases h2 : (connZ 6 (partsZ rs ++ [connZ 5 (guarsZ rs)])).op = 0
    · rw [if_pos h2] at h; cases h
    · rw [if_neg h2]; exact ⟨h1, h2, rfl⟩
theorem last_of {rs : List Rq} (h1 : (connZ 5 (guarsZ rs)).op ≠ 0) (h2 : (connZ 6 (partsZ rs ++ [connZ 5 (guarsZ rs)])).op ≠ 0) : lastZ rs = (connZ 6 (partsZ rs ++ [connZ 5 (guarsZ rs)]), 0) := by
  unfold lastZ
  rw [if_neg h1, if_neg h2]
theorem parts_append (rs ss : List Rq) : partsZ (rs ++ ss) = partsZ rs ++ partsZ ss := by unfold partsZ; rw [List.filter_append, List.map_append]
theorem guars_append (rs ss : List Rq) : guarsZ (rs ++ ss) = guarsZ rs ++ guarsZ ss := by unfold guarsZ; rw [List.filter_append, List.map_append]
/-- What TypingGoals says, plain. -/
structure GoalLaw (l : List Sg) (rs : List Rq) (g : Fm) : Prop where
  back : goalZ l (backZ rs rs.length) = (g, 0)
  alone : partsZ rs = [] → g = connZ 5 (guarsZ (backZ rs rs.length))
  truth : goalZ l (backZ rs rs.length ++ [addR 2 1]) = (g, 0)
  assume_ : goalZ l (backZ rs rs.length ++ [addR 1 1]) = (g, 0)
  false_ : goalZ l (backZ rs rs.length ++ [addR 1 2]) = (opF 1 [], 0)
theorem goal_law {l : List Sg} {rs : List Rq} (hl : rs.length ≤ 14) (h : (goalZ l rs).2 = 0) : GoalLaw l rs (goalZ l rs).1 := by
  have hg := goal_ok h
  rw [goal_good hg] at h ⊢
  obtain ⟨h1, h2, h3⟩ := last_ok h
  have hlast : lastZ rs = ((lastZ rs).1, 0) := by rw [← h]
  have hA := connZ_ok (.inl rfl) h1
  have hB := connZ_ok (.inr rfl) h2
  have hlb := last_back rs
  obtain ⟨k1, k2, k3⟩ := last_ok (rs := backZ rs rs.length) (by rw [hlb]; exact h)
  have hC := connZ_ok (.inr rfl) k2
  refine ⟨?_, ?_, ?_, ?_, ?_⟩
  · rw [goal_good (good_back hg hl), hlb]; exact hlast
  · intro hp
    rw [h3, hp, List.nil_append, connZ_one (.inr rfl) hA.2.1 hA.2.2.1]
    exact (connZ_perm (guars_back rs)).symm
  · rw [goal_good (good_add hg hl (.inr rfl) (.inl rfl)), ← hlast, ← hlb]
    have e1 : guarsZ [addR 2 1] = [opF (unitZ 5) []] := by show [(kernZ (opF 1 [])).1] = _; rw [leaf_kern (.inl rfl)]; rfl
    have e2 : partsZ [addR 2 1] = [] := rfl
    have e3 : connZ 5 (guarsZ (backZ rs rs.length ++ [addR 2 1])) = connZ 5 (guarsZ (backZ rs rs.length)) := by
      rw [guars_append, e1, ← connZ_unit (.inl rfl) (guarsZ (backZ rs rs.length))]
      exact connZ_perm fun x => by simp [or_comm]
    refine lastZ_congr e3 ?_
    rw [parts_append, e2, List.append_nil]
  · rw [goal_good (good_add hg hl (.inl rfl) (.inl rfl)), ← hlast, ← hlb]
    have e1 : guarsZ [addR 1 1] = [] := rfl
    have e2 : partsZ [addR 1 1] = [opF (unitZ 6) []] := by show [notZ (kernZ (opF 1 [])).1] = _; rw [leaf_kern (.inl rfl), leaf_not.1]; rfl
    have e3 : connZ 5 (guarsZ (backZ rs rs.length ++ [addR 1 1])) = connZ 5 (guarsZ (backZ rs rs.length)) := by rw [guars_append, e1, List.append_nil]
    refine lastZ_congr e3 ?_
    rw [parts_append, e2, ← connZ_unit (.inr rfl) (partsZ (backZ rs rs.length) ++ [connZ 5 (guarsZ (backZ rs rs.length ++ [addR 1 1]))])]
    refine connZ_perm fun x => ?_
    simp only [List.mem_append, List.mem_cons, List.not_mem_nil, or_false]
    constructor
    · rintro ((h | h) | h)
      · exact .inr (.inl h)
      · exact .inl h
      · exact .inr (.inr h)
    · rintro (h | h | h)
      · exact .inl (.inr h)
      · exact .inl (.inl h)
      · exact .inr h
  · rw [goal_good (good_add hg hl (.inl rfl) (.inr rfl))]
    have e1 : guarsZ [addR 1 2] = [] := rfl
    have e2 : partsZ [addR 1 2] = [opF (zeroZ 6) []] := by show [notZ (kernZ (opF 2 [])).1] = _; rw [leaf_kern (.inr rfl), leaf_not.2]; rfl
    have e3 : connZ 5 (guarsZ (backZ rs rs.length ++ [addR 1 2])) = connZ 5 (guarsZ (backZ rs rs.length)) := by rw [guars_append, e1, List.append_nil]
    have e4 : connZ 6 (partsZ (backZ rs rs.length ++ [addR 1 2]) ++ [connZ 5 (guarsZ (backZ rs rs.length ++ [addR 1 2]))]) = opF 1 [] := by
      rw [e3, parts_append, e2]
      refine connZ_zero (.inr rfl) ?_ (by simp)
      intro g hg2
      simp only [List.mem_append, List.mem_singleton] at hg2
      rcases hg2 with (hg2 | rfl) | rfl
      · exact hC.1 g (by simp [hg2])
      · exact leaf_loose (.inl rfl)
      · exact hC.1 _ (by simp)
    rw [last_of (by rw [e3]; exact k1) (by rw [e4]; decide), e4]
end Go.Proofs.YtdakdpfofgkjoaaDoor
set_option linter.unusedVariables false
set_option linter.unusedSimpArgs false
namespace Go.Proofs.YtdakdpfofgkjoaaDoor
open Go.RowKit

def gcells (s : Sg) : List Value := [.string s.name, .bool s.inp, .int .i64 s.size]
/-- A slice of signals. -/
def RdG (w : World) (D : Dom) (A : Option Addr) (c : Nat) (l : List Sg) : Prop := Rd w D 3 A l.length c (l.flatMap gcells)
section
variable {D E : Dom} {w w' : World} {A : Option Addr} {c : Nat} {l : List Sg}
theorem RdG.nil (w : World) (D : Dom) (A : Option Addr) {c : Nat} (hc : c ≤ 9223372036854775807) : RdG w D A c [] := Rd.nil w D 3 A hc
theorem RdG.len (h : RdG w D A c l) : l.length ≤ 140737488355328 ∧ l.length ≤ c ∧ c ≤ 9223372036854775807 := h.1.2
theorem RdG.keep (h : RdG w D A c l) (hk : Keeps D w w') : RdG w' D A c l := Rd.keep h hk
theorem RdG.mono (h : RdG w D A c l) (hE : ∀ b, D b → b < w.heap.size → E b) : RdG w E A c l := Rd.mono h hE
theorem RdG.old (h : RdG w D A c l) : RdG w (· < w.heap.size) A c l := Rd.old h
theorem RdG.any (h : RdG w D A c l) (hb : Below w.heap.size w w') : RdG w' AnyD A c l := (h.old.keep (Keeps.of_below hb fun _ h => h)).mono fun _ _ _ => trivial
theorem RdG.get {k : Nat} (h : RdG w D A c l) (hk : k < l.length) : ∃ b o s, A = some ⟨b, o, none⟩ ∧ b < w.heap.size ∧ Hid (l.getD k default = s) ∧
    w.cell? ⟨b, o + k * 3, none⟩ = some (.string s.name) ∧ w.cell? ⟨b, o + k * 3 + 1, none⟩ = some (.bool s.inp) ∧ w.cell? ⟨b, o + k * 3 + 2, none⟩ = some (.int .i64 s.size) := by
  obtain ⟨b, o, e, hb, hl, hc⟩ := h.2 (by omega)
  have g : ∀ j u, j < 3 → (gcells (l.getD k default))[j]? = some u → w.cell? ⟨b, o + (k * 3 + j), none⟩ = some u := fun j u hj hu => hc _ _ (by rw [flatF_at gcells default 3 (fun _ => rfl) l k j hk hj]; exact hu)
  have g0 := g 0 _ (by omega) rfl
  have g1 := g 1 _ (by omega) rfl
  have g2 := g 2 _ (by omega) rfl
  exact ⟨b, o, l.getD k default, e, hl, hid rfl, by simpa using g0, by simpa [Nat.add_assoc] using g1, by simpa [Nat.add_assoc] using g2⟩
end
/-- A requirement's cells. -/
def qcells (r : Rq) (s : Option Addr × Nat) : List Value := [.string r.part, .string r.name, .int .i64 r.kind, .int .i64 r.f.op, .string r.f.name, .int .i64 r.f.val, .int .i64 r.f.bound, .slice s.1 r.f.args.length s.2]
def cellsQ (l : List Rq) (sl : List (Option Addr × Nat)) : List Value := (l.zip sl).flatMap fun p => qcells p.1 p.2
/-- A slice of requirements. -/
def RdR (w : World) (D : Dom) (A : Option Addr) (c : Nat) (l : List Rq) : Prop :=
  ∃ sl : List (Option Addr × Nat), sl.length = l.length ∧ Rd w D 8 A l.length c (cellsQ l sl) ∧ ∀ i, i < l.length → RdA w D (l.getD i default).f.args (sl.getD i (none, 0)).1 (sl.getD i (none, 0)).2
theorem zipQ_get {L : List Rq} {sl : List (Option Addr × Nat)} (hl : sl.length = L.length) {k : Nat} (hk : k < L.length) : (L.zip sl).getD k (default, (none, 0)) = (L.getD k default, sl.getD k (none, 0)) := by
  have hs : k < sl.length := by omega
  have hzk : k < (L.zip sl).length := by rw [List.length_zip]; omega
  rw [List.getD_eq_getElem?_getD, List.getD_eq_getElem?_getD, List.getD_eq_getElem?_getD, List.getElem?_eq_getElem hzk, List.getElem?_eq_getElem hk, List.getElem?_eq_getElem hs]
  exact List.getElem_zip
theorem cellsQ_at {L : List Rq} {sl : List (Option Addr × Nat)} (hl : sl.length = L.length) {k j : Nat} (hk : k < L.length) (hj : j < 8) : (cellsQ L sl)[k * 8 + j]? = (qcells (L.getD k default) (sl.getD k (none, 0)))[j]? := by
  unfold cellsQ
  rw [flatF_at (fun p : Rq × (Option Addr × Nat) => qcells p.1 p.2) (default, ((none : Option Addr), 0)) 8 (fun _ => rfl) (L.zip sl) k j (by rw [List.length_zip, hl]; omega) hj, zipQ_get hl hk]
/-- The struct at p is the requirement r. -/
structure HasR (w : World) (D : Dom) (b o : Nat) (r : Rq) (A : Option Addr) (c : Nat) : Prop where
  dom : D b
  lt : b < w.heap.size
  c0 : w.cell? ⟨b, o, none⟩ = some (.string r.part)
  c1 : w.cell? ⟨b, o + 1, none⟩ = some (.string r.name)
  c2 : w.cell? ⟨b, o + 2, none⟩ = some (.int .i64 r.kind)
  c3 : w.cell? ⟨b, o + 3, none⟩ = some (.int .i64 r.f.op)
  c4 : w.cell? ⟨b, o + 4, none⟩ = some (.string r.f.name)
  c5 : w.cell? ⟨b, o + 5, none⟩ = some (.int .i64 r.f.val)
  c6 : w.cell? ⟨b, o + 6, none⟩ = some (.int .i64 r.f.bound)
  c7 : w.cell? ⟨b, o + 7, none⟩ = some (.slice A r.f.args.length c)
  args : RdA w D r.f.args A c
section
variable {D E : Dom} {w w' : World} {A : Option Addr} {c : Nat} {l : List Rq}
theorem RdR.nil (w : World) (D : Dom) (A : Option Addr) {c : Nat} (hc : c ≤ 9223372036854775807) : RdR w D A c [] := ⟨[], rfl, Rd.nil w D 8 A hc, fun _ h => absurd h (Nat.not_lt_zero _)⟩
theorem RdR.len (h : RdR w D A c l) : l.length ≤ 140737488355328 ∧ l.length ≤ c ∧ c ≤ 9223372036854775807 := let ⟨_, _, h1, _⟩ := h; h1.1.2
theorem RdR.keep (h : RdR w D A c l) (hk : Keeps D w w') : RdR w' D A c l := let ⟨sl, h0, h1, h2⟩ := h; ⟨sl, h0, h1.keep hk, fun i hi => (h2 i hi).keep hk⟩
theorem RdR.mono (h : RdR w D A c l) (hE : ∀ b, D b → b < w.heap.size → E b) : RdR w E A c l := let ⟨sl, h0, h1, h2⟩ := h; ⟨sl, h0, h1.mono hE, fun i hi => (h2 i hi).mono hE⟩
theorem RdR.old (h : RdR w D A c l) : RdR w (· < w.heap.size) A c l := h.mono fun _ _ hl => hl
theorem RdR.any (h : RdR w D A c l) (hb : Below w.heap.size w w') : RdR w' AnyD A c l := (h.old.keep (Keeps.of_below hb fun _ h => h)).mono fun _ _ _ => trivial
theorem RdR.get {k : Nat} (h : RdR w D A c l) (hk : k < l.length) : ∃ b o A' c' r, A = some ⟨b, o, none⟩ ∧ Hid (l.getD k default = r) ∧ HasR w D b (o + k * 8) r A' c' := by
  obtain ⟨sl, h0, h1, h2⟩ := h
  obtain ⟨b, o, e, hb, hl, hc⟩ := h1.2 (by omega)
  have g : ∀ j u, j < 8 → (qcells (l.getD k default) (sl.getD k (none, 0)))[j]? = some u → w.cell? ⟨b, o + (k * 8 + j), none⟩ = some u := fun j u hj hu => hc _ _ (by rw [cellsQ_at h0 hk hj]; exact hu)
  have g0 := g 0 _ (by omega) rfl
  have g1 := g 1 _ (by omega) rfl
  have g2 := g 2 _ (by omega) rfl
  have g3 := g 3 _ (by omega) rfl
  have g4 := g 4 _ (by omega) rfl
  have g5 := g 5 _ (by omega) rfl
  have g6 := g 6 _ (by omega) rfl
  have g7 := g 7 _ (by omega) rfl
  exact ⟨b, o, _, _, l.getD k default, e, hid rfl, hb, hl, by simpa using g0, by simpa [Nat.add_assoc] using g1, by simpa [Nat.add_assoc] using g2, by simpa [Nat.add_assoc] using g3, by simpa [Nat.add_assoc] using g4, by simpa [Nat.add_assoc] using g5, by simpa [Nat.add_assoc] using g6, by simpa [Nat.add_assoc] using g7, h2 k hk⟩
/-- 's[i:i+1]'. -/
theorem RdR.cut1 {k : Nat} (h : RdR w D A c l) (hk : k < l.length) : ∃ b o, A = some ⟨b, o, none⟩ ∧ RdR w D (some ⟨b, o + k * 8, none⟩) (c - k) [l.getD k default] := by
  obtain ⟨sl, h0, h1, h2⟩ := h
  have hlen := h1.1.2
  obtain ⟨b, o, e, hb, hl, hc⟩ := h1.2 (by omega)
  refine ⟨b, o, e, [sl.getD k (none, 0)], rfl, ⟨⟨rfl, by simp, by simp; omega, by omega⟩, fun _ => ⟨b, o + k * 8, rfl, hb, hl, fun j u hu => ?_⟩⟩, fun i hi => ?_⟩
  · have hj : j < 8 := by
      rcases Nat.lt_or_ge j 8 with h | h
      · exact h
      · have : (cellsQ [l.getD k default] [sl.getD k (none, 0)])[j]? = none := List.getElem?_eq_none (by show 8 ≤ j; exact h)
        rw [this] at hu; cases hu
    rw [Nat.add_assoc]
    refine hc _ _ ?_
    rw [cellsQ_at h0 hk hj]
    have := cellsQ_at (L := [l.getD k default]) (sl := [sl.getD k (none, 0)]) rfl (k := 0) (j := j) (by simp) hj
    rw [Nat.zero_mul, Nat.zero_add] at this
    rw [this] at hu
    exact hu
  · have : i = 0 := by simpa using hi
    subst this
    exact h2 k hk
end
theorem HasR.keep {w w' : World} {D : Dom} {b o : Nat} {r : Rq} {A : Option Addr} {c : Nat} (h : HasR w D b o r A c) (hk : Keeps D w w') : HasR w' D b o r A c :=
  ⟨h.dom, Nat.lt_of_lt_of_le h.lt hk.size, hk.cell h.dom h.c0, hk.cell h.dom h.c1, hk.cell h.dom h.c2, hk.cell h.dom h.c3, hk.cell h.dom h.c4, hk.cell h.dom h.c5, hk.cell h.dom h.c6, hk.cell h.dom h.c7, h.args.keep hk⟩
theorem HasR.form {w : World} {D : Dom} {b o : Nat} {r : Rq} {A : Option Addr} {c : Nat} (h : HasR w D b o r A c) : HasF w D b (o + 3) r.f A c :=
  ⟨h.dom, h.lt, h.c3, h.c4, h.c5, h.c6, h.c7, h.args⟩
theorem HasR.any {w w' : World} {D : Dom} {b o : Nat} {r : Rq} {A : Option Addr} {c : Nat} (h : HasR w D b o r A c) (hb : Below w.heap.size w w') : HasR w' AnyD b o r A c := by
  have hk : Keeps (· < w.heap.size) w w' := Keeps.of_below hb fun _ h => h
  exact ⟨trivial, Nat.lt_of_lt_of_le h.lt hk.size, hk.cell h.lt h.c0, hk.cell h.lt h.c1, hk.cell h.lt h.c2, hk.cell h.lt h.c3, hk.cell h.lt h.c4, hk.cell h.lt h.c5, hk.cell h.lt h.c6, hk.cell h.lt h.c7, h.args.any hb⟩
end Go.Proofs.YtdakdpfofgkjoaaDoor
