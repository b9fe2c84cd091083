/-
  The pairs that can be in no class, in memory; the walk of mark.
  What leads to each state, laid beside the pairs that can be in no class.
  Pairs of states that can be in no class: found from those whose outputs differ, backwards; plain.
-/
import Derived.Test.YtcmhginhfhiolaaZ21
import Derived.Test.YtcmhginhfhiolaaZ24
set_option linter.unusedVariables false
set_option linter.unusedSimpArgs false
namespace Go.Proofs.Ytcmhginhfhiolaa
open Go.RowKit
attribute [local go_sem] cell_alloc_old

def clG (cl : List (List Bool)) (p q : Nat) : Bool := (cl.getD p []).getD q false
def clS (cl : List (List Bool)) (p q : Nat) : List (List Bool) := cl.set p ((cl.getD p []).set q true)
theorem getD_setBL {l : List (List Bool)} {i j : Nat} {r : List Bool} (h : i < l.length) : (l.set i r).getD j [] = if j = i then r else l.getD j [] := by
  simp only [List.getD, List.getElem?_set]
  by_cases e : i = j
  · subst e; simp [h]
  · rw [if_neg e, if_neg (fun e2 => e e2.symm)]
theorem getD_setB1 {l : List Bool} {i j : Nat} (h : i < l.length) : (l.set i true).getD j false = if j = i then true else l.getD j false := by
  simp only [List.getD, List.getElem?_set]
  by_cases e : i = j
  · subst e; simp [h]
  · rw [if_neg e, if_neg (fun e2 => e e2.symm)]
/-- n rows of n. -/
def Sq (n : Nat) (cl : List (List Bool)) : Prop := cl.length = n ∧ ∀ i, i < n → (cl.getD i []).length = n
theorem clS_sq {n p q : Nat} {cl : List (List Bool)} (h : Sq n cl) (hp : p < n) : Sq n (clS cl p q) := by
  refine ⟨by unfold clS; rw [List.length_set]; exact h.1, fun i hi => ?_⟩
  unfold clS
  rw [getD_setBL (by rw [h.1]; exact hp)]
  split
  · rw [List.length_set]; exact h.2 p hp
  · exact h.2 i hi
theorem clS_get {n p q i j : Nat} {cl : List (List Bool)} (h : Sq n cl) (hp : p < n) (hq : q < n) : clG (clS cl p q) i j = if i = p ∧ j = q then true else clG cl i j := by
  unfold clG clS
  rw [getD_setBL (by rw [h.1]; exact hp)]
  by_cases e : i = p
  · subst e
    rw [if_pos rfl, getD_setB1 (by rw [h.2 i hp]; exact hq)]
    by_cases e2 : j = q
    · rw [if_pos e2, if_pos ⟨rfl, e2⟩]
    · rw [if_neg e2, if_neg (fun h => e2 h.2)]
  · rw [if_neg e, if_neg (fun h => e h.1)]
structure CmI (B : Nat) (w : World) (n cb : Nat) (rb : Nat → Nat) (cl : List (List Bool)) : Prop where
  sq : Sq n cl
  out : ∃ cur, w.heap[cb]? = some (.cells cur 41 (0, 0)) ∧ cur.size = n ∧ ∀ i, i < n → cur[i]? = some (.slice (some ⟨rb i, 0, none⟩) n n)
  row : ∀ i, i < n → w.heap[rb i]? = some (.cells ((cl.getD i []).map Value.bool).toArray 4 (0, 0))
  inj : ∀ i j, i < n → j < n → i ≠ j → rb i ≠ rb j
  bnd : B ≤ cb ∧ ∀ i, i < n → B ≤ rb i
section
variable {B : Nat} {w w' : World} {n cb : Nat} {rb : Nat → Nat} {cl : List (List Bool)}
theorem CmI.keep (h : CmI B w n cb rb cl) (hk : Keeps (fun b => b = cb ∨ ∃ i, i < n ∧ b = rb i) w w') : CmI B w' n cb rb cl := by
  obtain ⟨cur, h1, h2⟩ := h.out
  exact ⟨h.sq, ⟨cur, (hk.block cb (.inl rfl) (lt_of_block h1)).trans h1, h2⟩, fun i hi => (hk.block _ (.inr ⟨i, hi, rfl⟩) (lt_of_block (h.row i hi))).trans (h.row i hi), h.inj, h.bnd⟩
theorem CmI.later (h : CmI B w n cb rb cl) (hb : Below w.heap.size w w') : CmI B w' n cb rb cl := h.keep ⟨hb.size, fun b _ hl => hb.block b hl⟩
theorem CmI.ne (h : CmI B w n cb rb cl) {i : Nat} (hi : i < n) : cb ≠ rb i := fun e => by
  obtain ⟨cur, h1, _⟩ := h.out
  have := h.row i hi
  rw [← e] at this
  exact absurd (heap_ty h1 this) (by decide)
theorem CmI.set (h : CmI B w n cb rb cl) {p q : Nat} (hp : p < n) (hq : q < n) : CmI B (w.setCell ⟨rb p, q, none⟩ (.bool true)) n cb rb (clS cl p q) := by
  obtain ⟨cur, h1, h2⟩ := h.out
  refine ⟨clS_sq h.sq hp, ⟨cur, (Below.heap_setCell _ _ _ _ (h.ne hp)).trans h1, h2⟩, fun i hi => ?_, h.inj, h.bnd⟩
  by_cases e : i = p
  · subst e
    rw [set_block (h.row i hi) _]
    unfold clS
    rw [getD_setBL (by rw [h.sq.1]; exact hp), if_pos rfl, List.map_set]
    simp
  · rw [Below.heap_setCell _ _ _ _ (h.inj i p hi hp e), h.row i hi]
    unfold clS
    rw [getD_setBL (by rw [h.sq.1]; exact hp), if_neg e]
theorem CmI.cell (h : CmI B w n cb rb cl) {p : Nat} (hp : p < n) : w.cell? ⟨cb, p, none⟩ = some (.slice (some ⟨rb p, 0, none⟩) n n) ∧ cb < w.heap.size ∧ rb p < w.heap.size ∧ ∀ q, q < n → w.cell? ⟨rb p, q, none⟩ = some (.bool (clG cl p q)) ∧ w.frozen? ⟨rb p, q, none⟩ = false := by
  obtain ⟨cur, h1, h2, h3⟩ := h.out
  refine ⟨block_cell h1 (h3 p hp), lt_of_block h1, lt_of_block (h.row p hp), fun q hq => ⟨block_cell (h.row p hp) ?_, block_free (h.row p hp)⟩⟩
  unfold clG
  have hl := h.sq.2 p hp
  simp [List.getD, show q < ((cl[p]?).getD []).length by rw [← List.getD_eq_getElem?_getD]; omega]
end
/-- The list of pairs that are to be looked at, behind the variable in block ob. -/
structure ClM (B B1 : Nat) (w : World) (vb tb ob cb : Nat) (rb : Nat → Nat) (n : Nat) (c0 c1 c3 c4 : Value) (A : Option Addr) (c : Nat) (cl : List (List Bool)) (ts : List (Nat × Nat)) : Prop where
  var : w.heap[vb]? = some (.cells #[.pointer (some ⟨tb, 0, none⟩)] 66 (0, 0))
  box : w.heap[tb]? = some (.cells #[c0, c1, .slice (some ⟨cb, 0, none⟩) n n, c3, c4] 70 (0, 0))
  cm : CmI B w n cb rb cl
  obx : w.heap[ob]? = some (.cells #[.slice A ts.length c] 58 (0, 0))
  own : w.ownsRow B1 57 2 (.slice A ts.length c) ts.length (ts.flatMap pcells)
  low : cb < B1 ∧ (∀ i, i < n → rb i < B1) ∧ ob < B1 ∧ tb < B1 ∧ vb < B1
section
variable {B B1 : Nat} {w w' : World} {vb tb ob cb : Nat} {rb : Nat → Nat} {n : Nat} {c0 c1 c3 c4 : Value} {A : Option Addr} {c : Nat} {cl : List (List Bool)} {ts : List (Nat × Nat)}
theorem ClM.later (h : ClM B B1 w vb tb ob cb rb n c0 c1 c3 c4 A c cl ts) (hb : Below w.heap.size w w') : ClM B B1 w' vb tb ob cb rb n c0 c1 c3 c4 A c cl ts :=
  ⟨(hb.block _ (lt_of_block h.var)).trans h.var, (hb.block _ (lt_of_block h.box)).trans h.box, h.cm.later hb, (hb.block _ (lt_of_block h.obx)).trans h.obx, own_below h.own hb, h.low⟩
end
/-- The last pair is taken from the list. -/
theorem ClM.pop {B B1 : Nat} {w : World} {vb tb ob cb : Nat} {rb : Nat → Nat} {n : Nat} {c0 c1 c3 c4 : Value} {A : Option Addr} {c : Nat} {cl : List (List Bool)} {ts : List (Nat × Nat)} {z : Nat × Nat} (h : ClM B B1 w vb tb ob cb rb n c0 c1 c3 c4 A c cl (ts ++ [z])) :
    ClM B B1 (w.setCell ⟨ob, 0, none⟩ (.slice A ts.length c)) vb tb ob cb rb n c0 c1 c3 c4 A c cl ts := by
  have hne : ∀ (k : Nat) (cs : Array Value) (t : TypeId) (fr : Nat × Nat), w.heap[k]? = some (.cells cs t fr) → t ≠ 58 → (w.setCell ⟨ob, 0, none⟩ (.slice A ts.length c)).heap[k]? = some (.cells cs t fr) := fun k cs t fr h1 h2 =>
    (Below.heap_setCell _ _ _ _ fun e => by rw [show k = ob from e] at h1; exact h2 (heap_ty h1 h.obx)).trans h1
  have ho := h.own
  rw [List.length_append, List.length_singleton] at ho
  have ho2 := own_take ho (show ts.length ≤ ts.length + 1 by omega)
  rw [List.flatMap_append, List.take_append_of_le_length (by rw [flat2_len]; exact Nat.le_refl _), List.take_of_length_le (by rw [flat2_len]; exact Nat.le_refl _)] at ho2
  refine ⟨hne _ _ _ _ h.var (by decide), hne _ _ _ _ h.box (by decide), ?_, ?_, ownsRow_setCell_other ho2 (own_ne ho2 h.obx (by decide)) _, h.low⟩
  · obtain ⟨cur, h1, h2⟩ := h.cm.out
    exact ⟨h.cm.sq, ⟨cur, hne _ _ _ _ h1 (by decide), h2⟩, fun i hi => hne _ _ _ _ (h.cm.row i hi) (by decide), h.cm.inj, h.cm.bnd⟩
  · rw [set_block h.obx _]; rfl
/-- What mark does: nothing, or both cells are set and the pair is put on the list. -/
def Mark (cl : List (List Bool)) (ts : List (Nat × Nat)) (p q : Nat) (cl' : List (List Bool)) (ts' : List (Nat × Nat)) : Prop :=
  (clG cl p q = true ∧ cl' = cl ∧ ts' = ts) ∨ (clG cl p q = false ∧ cl' = clS (clS cl p q) q p ∧ ts' = ts ++ [(p, q)])
def MarkSays (B B1 vb tb ob cb : Nat) (rb : Nat → Nat) (n : Nat) (c0 c1 c3 c4 : Value) (cl : List (List Bool)) (ts : List (Nat × Nat)) (p q : Nat) (w : World) (e : Ending) (w' : World) : Prop :=
  ∃ A' c' cl' ts', e = .returned (.tuple #[]) ∧ ClM B B1 w' vb tb ob cb rb n c0 c1 c3 c4 A' c' cl' ts' ∧ Mark cl ts p q cl' ts' ∧ Chg (fun b => b = ob ∨ (∃ i, i < n ∧ b = rb i) ∨ B1 ≤ b) w w'

set_option maxRecDepth 100000 in
set_option maxHeartbeats 4000000 in
theorem mark_any (B B1 vb tb ob cb : Nat) (rb : Nat → Nat) (n : Nat) (c0 c1 c3 c4 : Value) (A : Option Addr) (c : Nat) (cl : List (List Bool)) (ts : List (Nat × Nat)) (p q : Nat) (w : World) (h : ClM B B1 w vb tb ob cb rb n c0 c1 c3 c4 A c cl ts) (hB : B1 ≤ w.heap.size) (hn : n ≤ 3000) (hp : p < n) (hq : q < n) (hpq : p ≠ q) (hts : ts.length ≤ 100000000) :
    Calls Try.prog 66 #[.int .i64 (p : Int), .int .i64 (q : Int), .pointer (some ⟨vb, 0, none⟩), .pointer (some ⟨ob, 0, none⟩)] w (MarkSays B B1 vb tb ob cb rb n c0 c1 c3 c4 cl ts p q w) := by
  obtain ⟨i0, hti, hz0, hz1, hz2⟩ := info_parts two_info
  have H0 := hid h
  have v0 := block_cell h.var (i := 0) rfl
  have t2 : w.cell? ⟨tb, 2, none⟩ = some (.slice (some ⟨cb, 0, none⟩) n n) := block_cell h.box (i := 2) rfl
  obtain ⟨k1, k2, k3, k4⟩ := h.cm.cell hp
  obtain ⟨m1, m2, m3, m4⟩ := h.cm.cell hq
  obtain ⟨k5, k6⟩ := k4 q hq
  obtain ⟨m5, m6⟩ := m4 p hp
  have hpi : (p : Int) < n := by omega
  have hqi : (q : Int) < n := by omega
  obtain ⟨u, hu⟩ : ∃ u, u = clG cl p q := ⟨_, rfl⟩
  rw [← hu] at k5
  have HU := hid hu
  clear h k4 m4 hu
  cases u with
  | true =>
    go_enter Try.func66, Try.ntmps66
    go_wp2_with fail
    refine bodyPost_ret (results_none rfl _ _ _) rfl ?_
    exact ⟨A, c, cl, ts, rfl, H0.out, .inl ⟨HU.out.symm, rfl, rfl⟩, Chg.refl _ _⟩
  | false =>
    have hne : rb p ≠ rb q := H0.out.cm.inj p q hp hq hpq
    have hne' : rb q ≠ rb p := fun e => hne e.symm
    have hcp : cb ≠ rb p := H0.out.cm.ne hp
    have hcq : cb ≠ rb q := H0.out.cm.ne hq
    have hvp : vb ≠ rb p := fun e => by have h1 := H0.out.cm.row p hp; rw [← e] at h1; exact absurd (heap_ty h1 H0.out.var) (by decide)
    have hvq : vb ≠ rb q := fun e => by have h1 := H0.out.cm.row q hq; rw [← e] at h1; exact absurd (heap_ty h1 H0.out.var) (by decide)
    have htp : tb ≠ rb p := fun e => by have h1 := H0.out.cm.row p hp; rw [← e] at h1; exact absurd (heap_ty h1 H0.out.box) (by decide)
    have htq : tb ≠ rb q := fun e => by have h1 := H0.out.cm.row q hq; rw [← e] at h1; exact absurd (heap_ty h1 H0.out.box) (by decide)
    have g1 := Ne.symm hcp
    have g2 := Ne.symm hcq
    have g3 := Ne.symm hvp
    have g4 := Ne.symm hvq
    have g5 := Ne.symm htp
    have g6 := Ne.symm htq
    have hpi0 : (0 : Int) ≤ (p : Int) := by omega
    have hqi0 : (0 : Int) ≤ (q : Int) := by omega
    go_enter Try.func66, Try.ntmps66
    go_wp2_with fail
    go_region_held3 (fun w' => w'.cell? ⟨vb, 0, none⟩ = some (.pointer (some ⟨tb, 0, none⟩)) ∧ w'.cell? ⟨tb, 2, none⟩ = some (.slice (some ⟨cb, 0, none⟩) n n) ∧ w'.cell? ⟨cb, p, none⟩ = some (.slice (some ⟨rb p, 0, none⟩) n n) ∧ w'.cell? ⟨cb, q, none⟩ = some (.slice (some ⟨rb q, 0, none⟩) n n)) (go_keep) (fail)
    go_upto_region 2 with (fail)
    refine wp_gen fun w4 hw4 => ?_
    have hw4' : w4 = ((w.setCell ⟨rb p, q, none⟩ (.bool true)).setCell ⟨rb q, p, none⟩ (.bool true)).drew := hw4
    clear hw4
    have key4 : ∀ k, k ≠ rb p → k ≠ rb q → w4.heap[k]? = w.heap[k]? := fun k h1 h2 => by
      rw [hw4']
      show ((w.setCell _ _).setCell _ _).heap[k]? = _
      rw [Below.heap_setCell _ _ _ _ h2, Below.heap_setCell _ _ _ _ h1]
    have hs4 : w4.heap.size = w.heap.size := by rw [hw4']; simp
    have hcm4 : CmI B w4 n cb rb (clS (clS cl p q) q p) := by
      rw [hw4']
      exact ((H0.out.cm.set hp hq).set hq hp).later ((Below.refl _ _).drew)
    have hbx : ∀ (k : Nat) (cs : Array Value) (t : TypeId) (fr : Nat × Nat), w.heap[k]? = some (.cells cs t fr) → t ≠ 4 → w4.heap[k]? = some (.cells cs t fr) := fun k cs t fr h1 h2 =>
      (key4 k (fun e => by have h3 := H0.out.cm.row p hp; rw [← e] at h3; exact h2 (heap_ty h1 h3)) (fun e => by have h3 := H0.out.cm.row q hq; rw [← e] at h3; exact h2 (heap_ty h1 h3))).trans h1
    have ho4 := hbx _ _ _ _ H0.out.obx (by decide)
    have hv4 := hbx _ _ _ _ H0.out.var (by decide)
    have ht4 := hbx _ _ _ _ H0.out.box (by decide)
    have hw4o := own_agree (W := w4) H0.out.own fun k e => by
      obtain ⟨cs, h1⟩ := own_heap H0.out.own e
      exact (hbx _ _ _ _ h1 (by decide)).trans h1.symm
    have hch4 : Chg (fun b => b = ob ∨ (∃ i, i < n ∧ b = rb i) ∨ B1 ≤ b) w w4 := by
      rw [hw4']
      exact (((Chg.refl _ w).set _ _ (fun _ => .inr (.inl ⟨p, hp, rfl⟩))).set _ _ (fun _ => .inr (.inl ⟨q, hq, rfl⟩))).drew
    have HCM := hid hcm4
    have HO4 := hid ho4
    have HV4 := hid hv4
    have HT4 := hid ht4
    have HW4 := hid hw4o
    have HCH4 := hid hch4
    have o0 := block_cell ho4 (i := 0) rfl
    have of0 := block_free ho4 (i := 0)
    have hol : ob < w4.heap.size := lt_of_block ho4
    have hB4 : B1 ≤ w4.heap.size := by omega
    clear hw4' key4 hcm4 hbx ho4 hv4 ht4 hw4o hch4 v0 t2 k1 m1 k5 k6 m5 m6 k2 k3 m2 m3 g1 g2 g3 g4 g5 g6 hcp hcq hvp hvq htp htq hne hne' hs4
    go_wp2_with (at_builtin; go_must (refine wpList_append_rd _ rfl (.tmp 35) (.tmp 39) 58 rfl B1 57 i0 _ 2 16 Try.underlying58 hti hz0 hz1 hz2 rfl (by omega) (.slice A ts.length c) ts.length _ rfl (HW4.out.alloc _) _ (some ⟨w4.heap.size, 0, none⟩) 1 1 _ rfl (Rd.fresh (D := fun _ => True) rfl trivial (by simp) (by omega)) (by simp [Value.oneCell']) (by omega) (maxLen_le (by omega)) (by simp; omega) ?_); intro A5 c5 w5 hown5 hg5 hat5; have e5c := (hg5.block ob (by simp; omega) (fun e => own_ne HW4.out HO4.out (by decide) e.symm)).trans ((Below.heap_alloc _ _ _ hol).trans HO4.out); have e5d := block_cell e5c (i := 0) rfl; have e5f := block_free e5c (i := 0))
    refine bodyPost_gen fun w6 hw6 => ?_
    have hw6' : w6 = w5.setCell ⟨ob, 0, none⟩ (.slice A5 (ts.length + 1) c5) := hw6
    clear hw6
    have key6 : ∀ (k : Nat) (cs : Array Value) (t : TypeId) (fr : Nat × Nat), w4.heap[k]? = some (.cells cs t fr) → t ≠ 57 → k ≠ ob → w6.heap[k]? = some (.cells cs t fr) := fun k cs t fr h1 h2 h3 => by
      rw [hw6', Below.heap_setCell _ _ _ _ h3]
      exact (hg5.block k (by have := lt_of_block h1; simp; omega) (fun e => own_ne HW4.out h1 (Ne.symm h2) e.symm)).trans ((Below.heap_alloc _ _ _ (lt_of_block h1)).trans h1)
    have hob : ∀ (k : Nat) (cs : Array Value) (t : TypeId) (fr : Nat × Nat), w4.heap[k]? = some (.cells cs t fr) → t ≠ 58 → k ≠ ob := fun k cs t fr h1 h2 e => by
      rw [e] at h1
      exact h2 (heap_ty h1 HO4.out)
    have hcm6 : CmI B w6 n cb rb (clS (clS cl p q) q p) := by
      obtain ⟨cur, h1, h2⟩ := HCM.out.out
      exact ⟨HCM.out.sq, ⟨cur, key6 _ _ _ _ h1 (by decide) (hob _ _ _ _ h1 (by decide)), h2⟩, fun i hi => key6 _ _ _ _ (HCM.out.row i hi) (by decide) (hob _ _ _ _ (HCM.out.row i hi) (by decide)), HCM.out.inj, HCM.out.bnd⟩
    have hch6 : Chg (fun b => b = ob ∨ (∃ i, i < n ∧ b = rb i) ∨ B1 ≤ b) w4 w6 := by
      rw [hw6']
      exact ((Chg.refl _ w4).alloc _ |>.grown hg5 (fun k e hk => .inr (.inr (HW4.out.lt k e).1))).set _ _ (fun _ => .inl rfl)
    refine bodyPost_ret (results_none rfl _ _ _) rfl ?_
    refine ⟨A5, c5, clS (clS cl p q) q p, ts ++ [(p, q)], rfl, ⟨key6 _ _ _ _ HV4.out (by decide) (hob _ _ _ _ HV4.out (by decide)), key6 _ _ _ _ HT4.out (by decide) (hob _ _ _ _ HT4.out (by decide)), hcm6, ?_, ?_, H0.out.low⟩, .inr ⟨HU.out.symm, rfl, rfl⟩, HCH4.out.trans hch6⟩
    · rw [hw6', List.length_append, List.length_singleton]
      exact set_block e5c _
    · rw [hw6', List.length_append, List.length_singleton, List.flatMap_append]
      exact ownsRow_setCell_other hown5 (own_ne hown5 e5c (by decide)) _
end Go.Proofs.Ytcmhginhfhiolaa
set_option linter.unusedVariables false
set_option linter.unusedSimpArgs false
namespace Go.Proofs.Ytcmhginhfhiolaa
open Go.RowKit
attribute [local go_sem] cell_alloc_old

/-- Blocks of w whose cells are of a kind in T lie in w' as they lay. -/
def SameT (T : TypeId → Prop) (w w' : World) : Prop := w.heap.size ≤ w'.heap.size ∧ ∀ (k : Nat) (cs : Array Value) (t : TypeId) (fr : Nat × Nat), w.heap[k]? = some (.cells cs t fr) → T t → w'.heap[k]? = w.heap[k]?
theorem SameT.of_below {T : TypeId → Prop} {w w' : World} (h : Below w.heap.size w w') : SameT T w w' := ⟨h.size, fun k cs t fr h1 _ => h.block k (lt_of_block h1)⟩
theorem SameT.set {T : TypeId → Prop} {w : World} {g i : Nat} {cs : Array Value} {t : TypeId} {fr : Nat × Nat} (h : w.heap[g]? = some (.cells cs t fr)) (ht : ¬ T t) (u : Value) : SameT T w (w.setCell ⟨g, i, none⟩ u) :=
  ⟨by simp, fun k cs' t' fr' h1 h2 => Below.heap_setCell _ _ _ _ fun e => by rw [show k = g from e] at h1; exact ht (heap_ty h1 h ▸ h2)⟩
theorem SameT.trans {T : TypeId → Prop} {w w1 w2 : World} (h : SameT T w w1) (k : SameT T w1 w2) : SameT T w w2 :=
  ⟨Nat.le_trans h.1 k.1, fun b cs t fr h1 h2 => (k.2 b cs t fr ((h.2 b cs t fr h1 h2).trans h1) h2).trans (h.2 b cs t fr h1 h2)⟩
/-- No hot rows. -/
def Q00 : PTA := ⟨none, 0, none, 0, none, 0, 0, none, 0, none, 0⟩
theorem Q00_hot (k : Nat) : ¬ Q00.hot k := by
  rintro (e | e) <;> cases e
def bmT : TypeId → Prop := fun t => t = 3 ∨ t = 34 ∨ t = 22
structure BmI (B : Nat) (w : World) (fb : Nat) (ib : Nat → Nat) (ins n : Nat) (F : Nat → Value) (L : Nat → List Nat) : Prop where
  fam : FamI B w Q00 F L
  fbx : ∃ cur, w.heap[fb]? = some (.cells cur 22 (0, 0)) ∧ ∀ x, x < ins → cur[x]? = some (.slice (some ⟨ib x, 0, none⟩) n n)
  ibx : ∀ x, x < ins → ∃ cur, w.heap[ib x]? = some (.cells cur 34 (0, 0)) ∧ cur.size = n ∧ ∀ t, t < n → cur[t]? = some (F (x * n + t))
  inj : ∀ x y, x < ins → y < ins → x ≠ y → ib x ≠ ib y
  bnd : B ≤ fb ∧ ∀ x, x < ins → B ≤ ib x
section
variable {B : Nat} {w w' w5 : World} {fb : Nat} {ib : Nat → Nat} {ins n : Nat} {F : Nat → Value} {L : Nat → List Nat} {v5 : Value}
theorem BmI.keep (h : BmI B w fb ib ins n F L) (hk : SameT bmT w w') : BmI B w' fb ib ins n F L := by
  refine ⟨⟨fun i => own_agree (h.fam.row i) fun k e => ?_, h.fam.dis, h.fam.cold⟩, ?_, fun x hx => ?_, h.inj, h.bnd⟩
  · obtain ⟨cs, h1⟩ := own_heap (h.fam.row i) e
    exact hk.2 k _ _ _ h1 (.inl rfl)
  · obtain ⟨cur, h1, h2⟩ := h.fbx
    exact ⟨cur, (hk.2 _ _ _ _ h1 (.inr (.inr rfl))).trans h1, h2⟩
  · obtain ⟨cur, h1, h2⟩ := h.ibx x hx
    exact ⟨cur, (hk.2 _ _ _ _ h1 (.inr (.inl rfl))).trans h1, h2⟩
theorem BmI.later (h : BmI B w fb ib ins n F L) (hb : Below w.heap.size w w') : BmI B w' fb ib ins n F L := h.keep (SameT.of_below hb)
theorem BmI.row_ib (h : BmI B w fb ib ins n F L) {i k x : Nat} (e : some k = (F i).ownBlock) (hx : x < ins) : k ≠ ib x := fun e2 => by
  obtain ⟨cs, hk⟩ := own_heap (h.fam.row i) e
  obtain ⟨cs', hk', _⟩ := h.ibx x hx
  subst e2
  exact absurd (heap_ty hk hk') (by decide)
theorem BmI.row_fb (h : BmI B w fb ib ins n F L) {i k : Nat} (e : some k = (F i).ownBlock) : k ≠ fb := fun e2 => by
  obtain ⟨cs, hk⟩ := own_heap (h.fam.row i) e
  obtain ⟨cs', hk', _⟩ := h.fbx
  subst e2
  exact absurd (heap_ty hk hk') (by decide)
theorem BmI.ib_fb (h : BmI B w fb ib ins n F L) {x : Nat} (hx : x < ins) : ib x ≠ fb := fun e2 => by
  obtain ⟨cs, hk, _⟩ := h.ibx x hx
  obtain ⟨cs', hk', _⟩ := h.fbx
  rw [e2] at hk
  exact absurd (heap_ty hk hk') (by decide)
theorem BmI.cell (h : BmI B w fb ib ins n F L) {x : Nat} (hx : x < ins) : w.cell? ⟨fb, x, none⟩ = some (.slice (some ⟨ib x, 0, none⟩) n n) ∧ fb < w.heap.size ∧ ib x < w.heap.size ∧ ∀ t, t < n → w.cell? ⟨ib x, t, none⟩ = some (F (x * n + t)) ∧ w.frozen? ⟨ib x, t, none⟩ = false := by
  obtain ⟨cur, h3, h4⟩ := h.fbx
  obtain ⟨cx, h5, _, h6⟩ := h.ibx x hx
  exact ⟨block_cell h3 (h4 x hx), lt_of_block h3, lt_of_block h5, fun t ht => ⟨block_cell h5 (h6 t ht), block_free h5⟩⟩
/-- What leads to t by x gets one more. -/
theorem BmI.pred {x t q : Nat} (h : BmI B w fb ib ins n F L) (hx : x < ins) (ht : t < n) (hg : w.grownBy w5 (F (x * n + t)).ownBlock) (ho : w5.ownsRow B 3 1 v5 ((L (x * n + t)).length + 1) ((natZ (L (x * n + t))).map (.int .i64) ++ [.int .i64 (q : Int)]))
    (hat : v5.ownBlock = (F (x * n + t)).ownBlock ∨ v5.ownBlock = some w.heap.size) : BmI B (w5.setCell ⟨ib x, t, none⟩ v5) fb ib ins n (upF F (x * n + t) v5) (upF L (x * n + t) (L (x * n + t) ++ [q])) ∧ Chg (fun k => B ≤ k) w (w5.setCell ⟨ib x, t, none⟩ v5) ∧
      ∀ (k : Nat) (cs : Array Value) (T : TypeId) (fr : Nat × Nat), w.heap[k]? = some (.cells cs T fr) → ¬ bmT T → (w5.setCell ⟨ib x, t, none⟩ v5).heap[k]? = w.heap[k]? := by
  have key : ∀ k, k < w.heap.size → some k ≠ (F (x * n + t)).ownBlock → k ≠ ib x → (w5.setCell ⟨ib x, t, none⟩ v5).heap[k]? = w.heap[k]? := fun k h1 h2 h3 => by
    rw [Below.heap_setCell _ _ _ _ h3]
    exact hg.block k h1 h2
  obtain ⟨cx, hcx, hcn, hcg⟩ := h.ibx x hx
  have hib5 : w5.heap[ib x]? = some (.cells cx 34 (0, 0)) := (hg.block _ (lt_of_block hcx) fun e => h.row_ib e hx rfl).trans hcx
  refine ⟨⟨h.fam.grow (n5 := w.heap.size) (c := ib x) (fun k hk => absurd hk (Q00_hot k)) key (fun j e => h.row_ib e hx rfl) ?_ hat (Nat.le_refl _), ?_, fun y hy => ?_, h.inj, h.bnd⟩, ((Chg.refl _ w).grown hg (fun k e _ => ((h.fam.row _).lt k e).1)).set _ _ (fun _ => h.bnd.2 x hx), fun k cs T fr h1 h2 => key k (lt_of_block h1) (fun e => ?_) (fun e => ?_)⟩
  · rw [List.length_append, natZ_snoc, List.map_append]
    exact ownsRow_setCell_other ho (own_ne ho hib5 (by decide)) _
  · obtain ⟨cur, h1, h2⟩ := h.fbx
    exact ⟨cur, (key fb (lt_of_block h1) (fun e => h.row_fb e rfl) (fun e => h.ib_fb hx e.symm)).trans h1, h2⟩
  · by_cases e : y = x
    · subst e
      refine ⟨cx.setIfInBounds t v5, set_block hib5 _, by rw [Array.size_setIfInBounds]; exact hcn, fun s hs => ?_⟩
      rw [Array.getElem?_setIfInBounds]
      by_cases e : t = s
      · subst e
        rw [if_pos rfl, if_pos (by omega), upF_same]
      · rw [if_neg e, upF_other _ _ (by omega)]
        exact hcg s hs
    · obtain ⟨cy, h1, h2, h3⟩ := h.ibx y hy
      refine ⟨cy, (key _ (lt_of_block h1) (fun e => h.row_ib e hy rfl) (h.inj y x hy hx e)).trans h1, h2, fun s hs => ?_⟩
      rw [upF_other _ _ (fun e2 => e (idx_inj hs ht e2).1)]
      exact h3 s hs
  · obtain ⟨cs', h3⟩ := own_heap (h.fam.row _) e
    exact h2 (.inl (heap_ty h1 h3))
  · rw [e, hcx] at h1
    injection h1 with h1
    injection h1 with _ h1
    exact h2 (.inr (.inl h1.symm))
/-- A list as a slice that can be read as long as its blocks lie as they lay. -/
theorem BmI.rd (h : BmI B w fb ib ins n F L) {i : Nat} (hl : (L i).length ≤ 140737488355328) : ∃ A c, F i = .slice A (L i).length c ∧ ∀ W, SameT bmT w W → RdI W (fun _ => True) A c (natZ (L i)) := by
  have hr := h.fam.row i
  obtain ⟨A, c, e⟩ := own_as hr
  rw [e] at hr
  have h1 : RdI w (IBX (fun _ => False) w B) A c (natZ (L i)) := IBX.own (B' := B) (n := (L i).length) (Nat.le_refl _) (fun _ _ h => h) hr (natZ_len _).symm hl
  refine ⟨A, c, e, fun W hW => (h1.keep ⟨hW.1, fun b hb _ => ?_⟩).mono fun _ _ _ => trivial⟩
  obtain ⟨_, _, cs, fr, hb⟩ := hb
  exact hW.2 b cs _ fr hb (.inl rfl)
/-- The first k inputs have their rows. -/
structure BmL (B : Nat) (w : World) (n k fb : Nat) (ib : Nat → Nat) (ins : Nat) : Prop where
  fbx : ∃ cur, w.heap[fb]? = some (.cells cur 22 (0, 0)) ∧ cur.size = ins ∧ ∀ x, x < k → cur[x]? = some (.slice (some ⟨ib x, 0, none⟩) n n)
  ibx : ∀ x, x < k → w.heap[ib x]? = some (zrow (.slice none 0 0) n 34)
  inj : ∀ x y, x < k → y < k → x ≠ y → ib x ≠ ib y
  bnd : B ≤ fb ∧ ∀ x, x < k → B ≤ ib x
theorem BmL.zero (hfb : B ≤ fb) (hf : w.heap[fb]? = some (zrow (.slice none 0 0) ins 22)) : BmL B w n 0 fb ib ins :=
  ⟨⟨_, hf, by simp, fun x h => absurd h (Nat.not_lt_zero _)⟩, fun x h => absurd h (Nat.not_lt_zero _), fun x _ h => absurd h (Nat.not_lt_zero _), ⟨hfb, fun x h => absurd h (Nat.not_lt_zero _)⟩⟩
theorem BmL.at_fb {x k : Nat} (h : BmL B w n k fb ib ins) (hx : x < ins) : ∃ u, w.cell? ⟨fb, x, none⟩ = some u ∧ w.frozen? ⟨fb, x, none⟩ = false ∧ fb < w.heap.size := by
  obtain ⟨cur, h1, h2, _⟩ := h.fbx
  exact ⟨_, block_cell h1 (Array.getElem?_eq_getElem (show x < cur.size by omega)), block_free h1, lt_of_block h1⟩
theorem BmL.next {k : Nat} (h : BmL B w n k fb ib ins) (hk : k < ins) (hB : B ≤ w.heap.size) :
    BmL B ((w.alloc (zrow (.slice none 0 0) n 34)).setCell ⟨fb, k, none⟩ (.slice (some ⟨w.heap.size, 0, none⟩) n n)) n (k + 1) fb (upF ib k w.heap.size) ins ∧
    Chg (fun b => b = fb) w ((w.alloc (zrow (.slice none 0 0) n 34)).setCell ⟨fb, k, none⟩ (.slice (some ⟨w.heap.size, 0, none⟩) n n)) := by
  obtain ⟨cur, h1, h2, h3⟩ := h.fbx
  have hfl := lt_of_block h1
  have key : ∀ j, j < w.heap.size → j ≠ fb → ((w.alloc (zrow (.slice none 0 0) n 34)).setCell ⟨fb, k, none⟩ (.slice (some ⟨w.heap.size, 0, none⟩) n n)).heap[j]? = w.heap[j]? := fun j hj hne => by
    rw [Below.heap_setCell _ _ _ _ hne]
    exact Below.heap_alloc _ _ _ hj
  have hibl : ∀ x, x < k → ib x < w.heap.size := fun x hx => lt_of_block (h.ibx x hx)
  have hibf : ∀ x, x < k → ib x ≠ fb := fun x hx e => by
    have := h.ibx x hx
    rw [e] at this
    exact absurd (heap_ty this h1) (by decide)
  refine ⟨⟨⟨_, set_block ((Below.heap_alloc _ _ _ hfl).trans h1) _, by rw [Array.size_setIfInBounds]; exact h2, fun x hx => ?_⟩, fun x hx => ?_, fun x y hx hy hxy => ?_, ⟨h.bnd.1, fun x hx => ?_⟩⟩, ((Chg.refl _ w).alloc _).set _ _ (fun _ => rfl)⟩
  · rw [Array.getElem?_setIfInBounds]
    by_cases e : k = x
    · subst e
      rw [if_pos rfl, if_pos (by omega), upF_same]
    · rw [if_neg e, upF_other _ _ (fun e2 => e e2.symm)]
      exact h3 x (by omega)
  · by_cases e : x = k
    · subst e
      rw [upF_same, Below.heap_setCell _ _ _ _ (show w.heap.size ≠ fb by omega)]
      exact at_new _ _ _ rfl
    · rw [upF_other _ _ e, key _ (hibl x (by omega)) (hibf x (by omega))]
      exact h.ibx x (by omega)
  · by_cases e1 : x = k
    · by_cases e2 : y = k
      · exact absurd (e1.trans e2.symm) hxy
      · have := hibl y (by omega)
        rw [e1, upF_same, upF_other _ _ e2]; omega
    · have := hibl x (by omega)
      by_cases e2 : y = k
      · rw [e2, upF_same, upF_other _ _ e1]; omega
      · rw [upF_other _ _ e1, upF_other _ _ e2]; exact h.inj x y (by omega) (by omega) hxy
  · by_cases e : x = k
    · rw [e, upF_same]; exact hB
    · rw [upF_other _ _ e]; exact h.bnd.2 x (by omega)
theorem BmL.done (h : BmL B w n ins fb ib ins) : BmI B w fb ib ins n (fun _ => .slice none 0 0) (fun _ => []) := by
  obtain ⟨cur, h1, h2, h3⟩ := h.fbx
  exact ⟨⟨fun i => ⟨rfl, .inl ⟨rfl, rfl⟩⟩, (fun _ _ _ _ e => by cases e), (fun _ _ e => by cases e)⟩, ⟨cur, h1, h3⟩, fun x hx => ⟨_, h.ibx x hx, by simp, fun t ht => by simp [ht]⟩, h.inj, h.bnd⟩
end
/-- The first k states have their row of pairs. -/
structure CmP (B : Nat) (w : World) (n k cb : Nat) (rb : Nat → Nat) : Prop where
  out : ∃ cur, w.heap[cb]? = some (.cells cur 41 (0, 0)) ∧ cur.size = n ∧ ∀ i, i < k → cur[i]? = some (.slice (some ⟨rb i, 0, none⟩) n n)
  row : ∀ i, i < k → w.heap[rb i]? = some (zrow (.bool false) n 4)
  inj : ∀ i j, i < k → j < k → i ≠ j → rb i ≠ rb j
  bnd : B ≤ cb ∧ ∀ i, i < k → B ≤ rb i
def cmT : TypeId → Prop := fun t => t = 4 ∨ t = 41
section
variable {B : Nat} {w w' : World} {n k cb : Nat} {rb : Nat → Nat}
theorem CmP.keep (h : CmP B w n k cb rb) (hk : SameT cmT w w') : CmP B w' n k cb rb := by
  obtain ⟨cur, h1, h2⟩ := h.out
  exact ⟨⟨cur, (hk.2 _ _ _ _ h1 (.inr rfl)).trans h1, h2⟩, fun i hi => (hk.2 _ _ _ _ (h.row i hi) (.inl rfl)).trans (h.row i hi), h.inj, h.bnd⟩
theorem CmP.zero (hcb : B ≤ cb) (hc : w.heap[cb]? = some (zrow (.slice none 0 0) n 41)) : CmP B w n 0 cb rb :=
  ⟨⟨_, hc, by simp, fun x h => absurd h (Nat.not_lt_zero _)⟩, fun x h => absurd h (Nat.not_lt_zero _), fun x _ h => absurd h (Nat.not_lt_zero _), ⟨hcb, fun x h => absurd h (Nat.not_lt_zero _)⟩⟩
theorem CmP.at_cb {i : Nat} (h : CmP B w n k cb rb) (hi : i < n) : ∃ u, w.cell? ⟨cb, i, none⟩ = some u ∧ w.frozen? ⟨cb, i, none⟩ = false ∧ cb < w.heap.size := by
  obtain ⟨cur, h1, h2, _⟩ := h.out
  exact ⟨_, block_cell h1 (Array.getElem?_eq_getElem (show i < cur.size by omega)), block_free h1, lt_of_block h1⟩
theorem CmP.next (h : CmP B w n k cb rb) (hk : k < n) (hB : B ≤ w.heap.size) :
    CmP B ((w.alloc (zrow (.bool false) n 4)).setCell ⟨cb, k, none⟩ (.slice (some ⟨w.heap.size, 0, none⟩) n n)) n (k + 1) cb (upF rb k w.heap.size) ∧
    Chg (fun b => b = cb) w ((w.alloc (zrow (.bool false) n 4)).setCell ⟨cb, k, none⟩ (.slice (some ⟨w.heap.size, 0, none⟩) n n)) ∧
    SameT bmT w ((w.alloc (zrow (.bool false) n 4)).setCell ⟨cb, k, none⟩ (.slice (some ⟨w.heap.size, 0, none⟩) n n)) := by
  obtain ⟨cur, h1, h2, h3⟩ := h.out
  have hfl := lt_of_block h1
  have key : ∀ j, j < w.heap.size → j ≠ cb → ((w.alloc (zrow (.bool false) n 4)).setCell ⟨cb, k, none⟩ (.slice (some ⟨w.heap.size, 0, none⟩) n n)).heap[j]? = w.heap[j]? := fun j hj hne => by
    rw [Below.heap_setCell _ _ _ _ hne]
    exact Below.heap_alloc _ _ _ hj
  have hibl : ∀ x, x < k → rb x < w.heap.size := fun x hx => lt_of_block (h.row x hx)
  have hibf : ∀ x, x < k → rb x ≠ cb := fun x hx e => by
    have := h.row x hx
    rw [e] at this
    exact absurd (heap_ty this h1) (by decide)
  refine ⟨⟨⟨_, set_block ((Below.heap_alloc _ _ _ hfl).trans h1) _, by rw [Array.size_setIfInBounds]; exact h2, fun x hx => ?_⟩, fun x hx => ?_, fun x y hx hy hxy => ?_, ⟨h.bnd.1, fun x hx => ?_⟩⟩, ((Chg.refl _ w).alloc _).set _ _ (fun _ => rfl),
    ⟨by simp, fun j cs t fr hj ht => key j (lt_of_block hj) fun e => ?_⟩⟩
  · rw [Array.getElem?_setIfInBounds]
    by_cases e : k = x
    · subst e
      rw [if_pos rfl, if_pos (by omega), upF_same]
    · rw [if_neg e, upF_other _ _ (fun e2 => e e2.symm)]
      exact h3 x (by omega)
  · by_cases e : x = k
    · subst e
      rw [upF_same, Below.heap_setCell _ _ _ _ (show w.heap.size ≠ cb by omega)]
      exact at_new _ _ _ rfl
    · rw [upF_other _ _ e, key _ (hibl x (by omega)) (hibf x (by omega))]
      exact h.row x (by omega)
  · by_cases e1 : x = k
    · by_cases e2 : y = k
      · exact absurd (e1.trans e2.symm) hxy
      · have := hibl y (by omega)
        rw [e1, upF_same, upF_other _ _ e2]; omega
    · have := hibl x (by omega)
      by_cases e2 : y = k
      · rw [e2, upF_same, upF_other _ _ e1]; omega
      · rw [upF_other _ _ e1, upF_other _ _ e2]; exact h.inj x y (by omega) (by omega) hxy
  · by_cases e : x = k
    · rw [e, upF_same]; exact hB
    · rw [upF_other _ _ e]; exact h.bnd.2 x (by omega)
  · rw [e] at hj
    have h4 := heap_ty hj h1
    rw [h4] at ht
    rcases ht with ht | ht | ht <;> exact absurd ht (by decide)
theorem CmP.done (h : CmP B w n n cb rb) : CmI B w n cb rb (List.replicate n (List.replicate n false)) := by
  refine ⟨⟨by simp, fun i hi => by simp [List.getD, hi]⟩, h.out, fun i hi => ?_, h.inj, h.bnd⟩
  rw [h.row i hi]
  have e : (List.replicate n (List.replicate n false)).getD i [] = List.replicate n false := by simp [List.getD, hi]
  rw [e, List.map_replicate]
  unfold zrow
  simp
end
end Go.Proofs.Ytcmhginhfhiolaa
set_option linter.unusedVariables false
set_option linter.unusedSimpArgs false
namespace Go.Proofs.Ytcmhginhfhiolaa

def Clash (L : Mac) (p q : Nat) : Prop := ∀ G, Good L G → ¬ G p q
section
variable {L : Mac} {p q : Nat}
theorem Clash.symm (h : Clash L p q) : Clash L q p := fun G hG hqp => h G hG (hG.symm _ _ hqp)
theorem Clash.ne (h : Clash L p q) : p ≠ q := fun e => h _ eq_good e
theorem Clash.back {a b x : Nat} {o o' : Int} (h : Clash L p q) (ha : a < L.size) (hb : b < L.size) (hx : x < L.ins) (h1 : L.mv a x = some (o, p)) (h2 : L.mv b x = some (o', q)) : Clash L a b := fun G hG hab =>
  h G hG (hG.cong a b x o p o' q ha hb hab hx h1 h2).2
end
def prs (n : Nat) : List (Nat × Nat) := (List.range n).flatMap fun i => (List.range n).map fun j => (i, j)
theorem prs_mem {n i j : Nat} : (i, j) ∈ prs n ↔ i < n ∧ j < n := by
  unfold prs
  rw [List.mem_flatMap]
  constructor
  · rintro ⟨i', hi, hm⟩
    obtain ⟨j', hj, e⟩ := List.mem_map.1 hm
    rw [List.mem_range] at hi hj
    injection e with e1 e2
    subst e1
    subst e2
    exact ⟨hi, hj⟩
  · rintro ⟨hi, hj⟩
    exact ⟨i, List.mem_range.2 hi, List.mem_map.2 ⟨j, List.mem_range.2 hj, rfl⟩⟩
theorem prs_len (n : Nat) : (prs n).length ≤ n * n := by
  have h : ∀ k m : Nat, ((List.range k).flatMap fun i => (List.range m).map fun j => (i, j)).length = k * m := fun k m => by
    induction k with
    | zero => simp
    | succ k ih => rw [List.range_succ, List.flatMap_append, List.length_append, ih, Nat.succ_mul]; simp
  unfold prs
  rw [h]
  exact Nat.le_refl _
/-- How many cells are still false. -/
def cntF (n : Nat) (cl : List (List Bool)) : Nat := ((prs n).filter fun z => !clG cl z.1 z.2).length
structure CI (L : Mac) (cl : List (List Bool)) (ts : List (Nat × Nat)) : Prop where
  sq : Sq L.size cl
  clx : ∀ p q, p < L.size → q < L.size → clG cl p q = true → Clash L p q
  tsx : ∀ z ∈ ts, z.1 < L.size ∧ z.2 < L.size ∧ Clash L z.1 z.2
  cnt : ts.length + cntF L.size cl ≤ 9000000
section
variable {L : Mac} {cl cl' : List (List Bool)} {ts ts' : List (Nat × Nat)} {p q : Nat}
theorem CI.mark (h : CI L cl ts) (hp : p < L.size) (hq : q < L.size) (hc : Clash L p q) (hm : Mark cl ts p q cl' ts') : CI L cl' ts' ∧ ts'.length + cntF L.size cl' ≤ ts.length + cntF L.size cl := by
  rcases hm with ⟨_, rfl, rfl⟩ | ⟨h0, rfl, rfl⟩
  · exact ⟨h, Nat.le_refl _⟩
  · have s1 := clS_sq (q := q) h.sq hp
    have hg : ∀ i j, clG (clS (clS cl p q) q p) i j = if i = q ∧ j = p then true else if i = p ∧ j = q then true else clG cl i j := fun i j => by
      rw [clS_get s1 hq hp, clS_get h.sq hp hq]
    have hless : cntF L.size (clS (clS cl p q) q p) < cntF L.size cl := by
      unfold cntF
      refine filter_less _ _ _ (fun z _ hz => ?_) ⟨(p, q), prs_mem.2 ⟨hp, hq⟩, by simp [h0], by simp [hg]⟩
      rw [hg] at hz
      by_cases e1 : z.1 = q ∧ z.2 = p
      · rw [if_pos e1] at hz; cases hz
      · by_cases e2 : z.1 = p ∧ z.2 = q
        · rw [if_neg e1, if_pos e2] at hz; cases hz
        · rw [if_neg e1, if_neg e2] at hz; exact hz
    have hle : (ts ++ [(p, q)]).length + cntF L.size (clS (clS cl p q) q p) ≤ ts.length + cntF L.size cl := by
      rw [List.length_append, List.length_singleton]; omega
    refine ⟨⟨clS_sq s1 hq, fun i j hi hj hij => ?_, fun z hz => ?_, Nat.le_trans hle h.cnt⟩, hle⟩
    · rw [hg] at hij
      by_cases e1 : i = q ∧ j = p
      · rw [e1.1, e1.2]; exact hc.symm
      · by_cases e2 : i = p ∧ j = q
        · rw [e2.1, e2.2]; exact hc
        · rw [if_neg e1, if_neg e2] at hij
          exact h.clx i j hi hj hij
    · rcases List.mem_append.1 hz with hz | hz
      · exact h.tsx z hz
      · rw [List.mem_singleton] at hz
        subst hz
        exact ⟨hp, hq, hc⟩
theorem CI.pop {z : Nat × Nat} (h : CI L cl (ts ++ [z])) : CI L cl ts ∧ z.1 < L.size ∧ z.2 < L.size ∧ Clash L z.1 z.2 :=
  ⟨⟨h.sq, h.clx, fun y hy => h.tsx y (List.mem_append_left _ hy), by have := h.cnt; rw [List.length_append] at this; omega⟩, h.tsx z (List.mem_append_right _ (List.mem_singleton.2 rfl))⟩
theorem CI.zero (hs : L.size ≤ 3000) : CI L (List.replicate L.size (List.replicate L.size false)) [] := by
  refine ⟨⟨by simp, fun i hi => by simp [List.getD, hi]⟩, fun p q hp hq h => ?_, (fun z hz => by cases hz), ?_⟩
  · unfold clG at h
    simp [List.getD, hp, hq] at h
  · have h1 := List.length_filter_le (fun z : Nat × Nat => !clG (List.replicate L.size (List.replicate L.size false)) z.1 z.2) (prs L.size)
    have h2 := prs_len L.size
    have h3 : L.size * L.size ≤ 3000 * 3000 := Nat.mul_le_mul hs hs
    unfold cntF
    simp only [List.length_nil]
    omega
theorem CI.ok (h : CI L cl ts) : ClashOk L cl := fun p q hp hq hpq G hG => h.clx p q hp hq hpq G hG
end
/-- The lists hold states that lead there. -/
def BefOk (L : Mac) (F : Nat → List Nat) : Prop := ∀ x t p, x < L.ins → t < L.size → p ∈ F (x * L.size + t) → p < L.size ∧ ∃ o, L.mv p x = some (o, t)
theorem BefOk.zero (L : Mac) : BefOk L fun _ => [] := fun _ _ _ _ _ h => by cases h
theorem BefOk.push {L : Mac} {F : Nat → List Nat} {x t p : Nat} {o : Int} (h : BefOk L F) (hp : p < L.size) (ht : t < L.size) (hm : L.mv p x = some (o, t)) : BefOk L (upF F (x * L.size + t) (F (x * L.size + t) ++ [p])) := fun y s q hy hs hq => by
  by_cases e : y * L.size + s = x * L.size + t
  · obtain ⟨rfl, rfl⟩ := idx_inj hs ht e
    rw [upF_same, List.mem_append, List.mem_singleton] at hq
    rcases hq with hq | rfl
    · exact h y s q hy hs hq
    · exact ⟨hp, o, hm⟩
  · rw [upF_other _ _ e] at hq
    exact h y s q hy hs hq
/-- How long the lists are while the moves of state k are laid. -/
def LenOk (L : Mac) (k x : Nat) (F : Nat → List Nat) : Prop := ∀ y t, y < L.ins → t < L.size → (F (y * L.size + t)).length ≤ if y < x then k + 1 else k
theorem LenOk.zero (L : Mac) : LenOk L 0 0 fun _ => [] := fun _ _ _ _ => Nat.zero_le _
theorem LenOk.push {L : Mac} {k x t : Nat} {F : Nat → List Nat} {l : List Nat} (h : LenOk L k x F) (hx : x < L.ins) (ht : t < L.size) (hl : l.length = (F (x * L.size + t)).length + 1) : LenOk L k (x + 1) (upF F (x * L.size + t) l) := fun y s hy hs => by
  by_cases e : y * L.size + s = x * L.size + t
  · obtain ⟨rfl, rfl⟩ := idx_inj hs ht e
    have := h y s hy hs
    rw [if_neg (by omega)] at this
    rw [upF_same, if_pos (by omega)]
    omega
  · rw [upF_other _ _ e]
    have := h y s hy hs
    split at this <;> split <;> omega
theorem LenOk.skip {L : Mac} {k x : Nat} {F : Nat → List Nat} (h : LenOk L k x F) : LenOk L k (x + 1) F := fun y s hy hs => by
  have := h y s hy hs
  split at this <;> split <;> omega
theorem LenOk.row {L : Mac} {k : Nat} {F : Nat → List Nat} (h : LenOk L k L.ins F) : LenOk L (k + 1) 0 F := fun y s hy hs => by
  have := h y s hy hs
  rw [if_pos hy] at this
  rw [if_neg (by omega)]
  exact this
end Go.Proofs.Ytcmhginhfhiolaa
