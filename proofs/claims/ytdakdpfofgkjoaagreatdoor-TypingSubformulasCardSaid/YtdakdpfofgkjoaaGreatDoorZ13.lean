/-
  A stack that begins in an array: append in place, or into a new row.
  Comparing with a stack: plain; slices of formulas: tails, and that memory tells the formula.
  Two pointers compared, one of them into memory that is no string's; clean memory.
-/
import Derived.ArgAppend
import Derived.Test.YtdakdpfofgkjoaaGreatDoorZ12
import Derived.LaidEqlPtr
set_option linter.unusedVariables false
set_option linter.unusedSimpArgs false
namespace Go.Proofs.YtdakdpfofgkjoaaGreatDoor
open Go.RowKit Go.Shelf

/-- The slice v of n elements of size cells lies at the start of a block from base on, which has all cells of its capacity; they hold xs. -/
structure Stk (w : World) (base size : Nat) (v : Value) (n : Nat) (xs : List Value) (tb cap : Nat) : Prop where
  eq : v = .slice (some ⟨tb, 0, none⟩) n cap
  ge : base ≤ tb
  lt : tb < w.heap.size
  room : n ≤ cap
  max : cap ≤ maxLen
  len : xs.length = n * size
  at_ : ∀ j u, xs[j]? = some u → w.cell? ⟨tb, j, none⟩ = some u
  all : ∀ j, j < cap * size → (w.cell? ⟨tb, j, none⟩).isSome = true ∧ w.frozen? ⟨tb, j, none⟩ = false
section
variable {w w' : World} {base size n tb cap : Nat} {v : Value} {xs : List Value}
theorem Stk.agree (h : Stk w base size v n xs tb cap) (hb : w'.heap[tb]? = w.heap[tb]?) (hs : w.heap.size ≤ w'.heap.size) : Stk w' base size v n xs tb cap :=
  ⟨h.eq, h.ge, Nat.lt_of_lt_of_le h.lt hs, h.room, h.max, h.len, fun j u hu => (World.cell?_of_block hb).trans (h.at_ j u hu), fun j hj => by
    rw [World.cell?_of_block (a := ⟨tb, j, none⟩) hb, World.frozen?_of_block (a := ⟨tb, j, none⟩) hb]; exact h.all j hj⟩
theorem Stk.of_own {e : TypeId} (h : w.ownsRow base e size v n xs) (hn : 0 < n) : ∃ tb cap, Stk w base size v n xs tb cap := by
  have hc := fun g hg => h.cells (g := g) hg
  rcases h.2 with ⟨_, h0⟩ | ⟨g, cap, cur, hv, hb, hg, hnc, hcm, hcs, htake⟩
  · omega
  · refine ⟨g, cap, hv, hb, lt_of_block hg, hnc, hcm, h.1, fun j u hu => ?_, fun j hj => ⟨?_, block_free hg⟩⟩
    · rw [← htake, List.getElem?_take] at hu
      split at hu
      · exact block_cell hg (by simpa using hu)
      · cases hu
    · rw [block_cell hg (Array.getElem?_eq_getElem (by rw [hcs]; exact hj))]; rfl
/-- The first k elements. -/
theorem Stk.take (h : Stk w base size v n xs tb cap) {k : Nat} (hk : k ≤ n) : Stk w base size (.slice (some ⟨tb, 0, none⟩) k cap) k (xs.take (k * size)) tb cap :=
  ⟨rfl, h.ge, h.lt, Nat.le_trans hk h.room, h.max, by
    rw [List.length_take, h.len]; exact Nat.min_eq_left (Nat.mul_le_mul_right _ hk), fun j u hu => h.at_ j u (by
    rw [List.getElem?_take] at hu
    split at hu
    · exact hu
    · cases hu), h.all⟩
/-- A cell is stored. -/
theorem Stk.set (h : Stk w base size v n xs tb cap) (j : Nat) (u : Value) (hj : j < n * size) : Stk (w.setCell ⟨tb, j, none⟩ u) base size v n (xs.set j u) tb cap := by
  have hj' : j < cap * size := Nat.lt_of_lt_of_le hj (Nat.mul_le_mul_right _ h.room)
  refine ⟨h.eq, h.ge, by simpa using h.lt, h.room, h.max, by simpa using h.len, fun i x hx => ?_, fun i hi => ⟨?_, by rw [World.frozen?_setCell]; exact (h.all i hi).2⟩⟩
  · rw [List.getElem?_set] at hx
    split at hx
    · rename_i e
      subst e
      split at hx
      · injection hx with hx
        subst hx
        obtain ⟨y, hy⟩ := Option.isSome_iff_exists.1 (h.all j hj').1
        exact World.cell?_setCell_same w _ _ hy
      · cases hx
    · rename_i e
      rw [World.cell?_setCell_other w _ _ _ (by intro e2; injection e2 with _ e2; exact e e2)]
      exact h.at_ i x hx
  · by_cases e : i = j
    · subst e
      obtain ⟨y, hy⟩ := Option.isSome_iff_exists.1 (h.all i hi).1
      rw [World.cell?_setCell_same w _ _ hy]; rfl
    · rw [World.cell?_setCell_other w _ _ _ (by intro e2; injection e2 with _ e2; exact e e2.symm)]
      exact (h.all i hi).1
end
theorem setCells_world (b : Nat) : ∀ (vs : List Value) (o : Nat) (w : World), (w.setCells b o vs).os = w.os ∧ (w.setCells b o vs).tape = w.tape ∧ (w.setCells b o vs).output = w.output ∧ (w.setCells b o vs).heap.size = w.heap.size ∧ (∀ k, k ≠ b → (w.setCells b o vs).heap[k]? = w.heap[k]?) ∧ (w.setCells b o vs).drawn = w.drawn
  | [], _, w => ⟨rfl, rfl, rfl, rfl, fun _ _ => rfl, rfl⟩
  | v :: r, o, w => by
    obtain ⟨h1, h2, h3, h4, h5, h6⟩ := setCells_world b r (o + 1) (w.setCell ⟨b, o, none⟩ v)
    exact ⟨h1, h2, h3, h4.trans (by simp), fun k hk => (h5 k hk).trans (Below.heap_setCell _ _ _ _ hk), h6⟩
section
variable {P : Program} (w : World)
theorem run_append_stk (base : Nat) (t ty e : TypeId) (i : TypeInfo) (z : Value) (size bytes : Nat) (ht : P.underlying t = some (.slice e)) (hi : P.info? e = some i) (hz : i.zero = some z)
    (hsize : i.size = size) (hby : i.bytes = bytes) (hzs : z.cells.size = size) (hsz : 0 < size)
    (v : Value) (n : Nat) (xs : List Value) (tb cap : Nat) (hst : Stk w base size v n xs tb cap)
    (D : Dom) (A : Option Addr) (m c : Nat) (news : List Value) (hm : 0 < m) (hr : Rd w D size A m c news) (h1 : ∀ u ∈ news, u.oneCell' = true)
    (hbytes : (n + m) * bytes ≤ 140737488355328) (h63 : n + m ≤ maxLen) (hbase : base ≤ w.heap.size) :
    ∃ tb' c' w', (Builtin.append_ #[t, t] ty #[v, .slice A m c]).run P w = .ok (.slice (some ⟨tb', 0, none⟩) (n + m) c') w' ∧ Stk w' base size (.slice (some ⟨tb', 0, none⟩) (n + m) c') (n + m) (xs ++ news) tb' c' ∧ w.grownBy w' (some tb) ∧ (tb' = tb ∨ w.heap.size ≤ tb') ∧ w.drawn ≤ w'.drawn := by
  obtain ⟨b, o, rfl, hD, hl, hc⟩ := hr.2 hm
  have hcells : ∀ j u, news[j]? = some u → w.cell? ((⟨b, o, none⟩ : Addr).add j) = some u := fun j u hu => by
    have e : (⟨b, o, none⟩ : Addr).add j = ⟨b, o + j, none⟩ := by
      unfold Addr.add
      by_cases h0 : j = 0 <;> simp [h0]
    rw [e]; exact hc j u hu
  obtain rfl := hst.eq
  by_cases hroom : n + m ≤ cap
  · have hfit : (n + m) * size ≤ cap * size := Nat.mul_le_mul_right _ hroom
    have hlen : n * size + news.length ≤ cap * size := by rw [hr.1.1, ← Nat.add_mul]; exact hfit
    have hrun := run_append_room_cells (P := P) w t ty e i ht hi tb 0 n cap ⟨b, o, none⟩ m c news (by rw [hsize]; exact hr.1.1) hcells h1 hroom
      (fun j hj => by rw [hsize, Nat.zero_add]; exact (hst.all _ (by omega)).1) (fun j hj => by rw [hsize, Nat.zero_add]; exact (hst.all _ (by omega)).2)
    rw [hsize, Nat.zero_add] at hrun
    refine ⟨tb, cap, _, hrun, ⟨rfl, hst.ge, by rw [(setCells_world tb news (n * size) w).2.2.2.1]; exact hst.lt, hroom, hst.max, by rw [List.length_append, hst.len, hr.1.1, Nat.add_mul], fun j u hu => ?_, fun j hj => ⟨?_, ?_⟩⟩, ⟨?_, ?_, ?_, ?_, ?_⟩, .inl rfl, ?_⟩
    · by_cases hj : j < n * size
      · rw [World.cell?_setCells_out tb news (n * size) w ⟨tb, j, none⟩ (fun _ _ => .inl hj)]
        rw [List.getElem?_append_left (by rw [hst.len]; exact hj)] at hu
        exact hst.at_ j u hu
      · rw [List.getElem?_append_right (by rw [hst.len]; omega), hst.len] at hu
        have hj2 : j - n * size < news.length := (List.getElem?_eq_some_iff.1 hu).1
        have := World.cell?_setCells_in tb news (n * size) w (fun j hj => (hst.all _ (by omega)).1) (j - n * size) hj2
        rw [show n * size + (j - n * size) = j by omega] at this
        rw [this, ← hu, List.getElem?_eq_getElem hj2]
    · exact World.isSome_setCells tb news (n * size) w ⟨tb, j, none⟩ (hst.all j hj).1
    · rw [World.frozen?_setCells]; exact (hst.all j hj).2
    · exact (setCells_world tb news (n * size) w).1
    · exact (setCells_world tb news (n * size) w).2.1
    · exact (setCells_world tb news (n * size) w).2.2.1
    · exact Nat.le_of_eq (setCells_world tb news (n * size) w).2.2.2.1.symm
    · exact fun k _ hk => (setCells_world tb news (n * size) w).2.2.2.2.1 k fun e => hk (by rw [e])
    · exact Nat.le_of_eq (setCells_world tb news (n * size) w).2.2.2.2.2.symm
  · subst hsize
    subst hby
    have hsmall : n + m ≤ 9223372036854775807 := by simp only [maxLen] at h63; omega
    have hlen : (xs ++ news).length = (n + m) * i.size := by rw [List.length_append, hst.len, hr.1.1, Nat.add_mul]
    have hrun := run_append_grow (P := P) w t ty e i z ht hi hz ⟨tb, 0, none⟩ n cap xs hst.len (fun j u hu => by
      have e : (⟨tb, 0, none⟩ : Addr).add j = ⟨tb, j, none⟩ := by
        unfold Addr.add
        by_cases h0 : j = 0 <;> simp [h0]
      rw [e]; exact hst.at_ j u hu) ⟨b, o, none⟩ m c news hr.1.1 hcells (by omega) (by omega) (growslice_fits (by omega) hbytes)
    have hge := grownCap_ge w (n + m) cap e
    have hcm : grownCap w (n + m) cap e ≤ maxLen := grownCap_le_maxLen w (n + m) cap e h63
    have hown : (w.drew.alloc (.cells (xs.toArray ++ news.toArray ++ Builtin.zeroCells z.cells (grownCap w (n + m) cap e - (n + m))) e)).ownsRow w.heap.size e i.size (.slice (some ⟨w.heap.size, 0, none⟩) (n + m) (grownCap w (n + m) cap e)) (n + m) (xs ++ news) := by
      refine ⟨hlen, .inr ⟨w.heap.size, _, _, rfl, Nat.le_refl _, heap_alloc_new w.drew _, hge, hcm, ?_, ?_⟩⟩
      · simp only [Array.size_append, List.size_toArray, size_zeroCells, hzs, hst.len, hr.1.1, ← Nat.add_mul]
        congr 1
        omega
      · simp only [Array.toList_append, List.append_assoc]
        rw [← List.append_assoc, ← hlen]
        exact List.take_left
    obtain ⟨tb', c', h2⟩ := Stk.of_own hown (by omega)
    have heq := h2.eq
    injection heq with e1 e2 e3
    injection e1 with e1
    injection e1 with e1
    subst e1 e3
    exact ⟨_, _, _, hrun, ⟨rfl, hbase, h2.lt, h2.room, h2.max, h2.len, h2.at_, h2.all⟩, ⟨rfl, rfl, rfl, by simp, fun k hk _ => Below.heap_alloc _ _ _ hk⟩, .inr (Nat.le_refl _), Nat.le_succ _⟩
theorem step_append_stk {ops : Array Oper} {o : Oper} {a : Act} {K : Act → World → Prop} {Q : Exit → Act → World → Prop} {E : Prop} (hgd : o.guard = none) (s x : Operand) (t : TypeId)
    (ho : o.op = .call { callee := .builtin .append, args := #[s, x], argTypes := #[t, t] })
    (base : Nat) (e : TypeId) (i : TypeInfo) (z : Value) (size bytes : Nat) (ht : P.underlying t = some (.slice e)) (hi : P.info? e = some i) (hz : i.zero = some z)
    (hsize : i.size = size) (hby : i.bytes = bytes) (hzs : z.cells.size = size) (hsz : 0 < size)
    (v : Value) (n : Nat) (xs : List Value) (tb cap : Nat) (hs : a.eval s = v) (hst : Stk w base size v n xs tb cap)
    (D : Dom) (A : Option Addr) (m c : Nat) (news : List Value) (hm : 0 < m) (hx : a.eval x = .slice A m c) (hr : Rd w D size A m c news) (h1 : ∀ u ∈ news, u.oneCell' = true)
    (hbytes : (n + m) * bytes ≤ 140737488355328) (h63 : n + m ≤ maxLen) (hbase : base ≤ w.heap.size)
    (h : ∀ tb' c' w', Stk w' base size (.slice (some ⟨tb', 0, none⟩) (n + m) c') (n + m) (xs ++ news) tb' c' → w.grownBy w' (some tb) → (tb' = tb ∨ w.heap.size ≤ tb') → w.drawn ≤ w'.drawn →
      K (a.put o.dst (.slice (some ⟨tb', 0, none⟩) (n + m) c')) w') :
    if Region.wanted o (yielded ops a.tmps) = true then Oper.wp P o a w K Q else E := by
  have hw : Region.wanted o (yielded ops a.tmps) = true := by simp [Region.wanted, hgd]
  rw [if_pos hw]
  obtain ⟨tb', c', w', hrun, h2, h3, h4, h5⟩ := run_append_stk (P := P) w base t o.type e i z size bytes ht hi hz hsize hby hzs hsz v n xs tb cap hst D A m c news hm hr h1 hbytes h63 hbase
  unfold Oper.wp execOp
  simp only [ho, resolve, invoke, builtin, Sem.run_bind, Sem.run_pure, Result.andThen_ok, List.map_toArray, List.map_cons, List.map_nil, hs, hx, hrun]
  exact h tb' c' w' h2 h3 h4 h5
end
end Go.Proofs.YtdakdpfofgkjoaaGreatDoor
set_option linter.unusedVariables false
set_option linter.unusedSimpArgs false
namespace Go.Proofs.YtdakdpfofgkjoaaGreatDoor
open Go.RowKit Go.Shelf

mutual
theorem cmp_self : ∀ f : Fm, f.cmp f = 0
  | .mk o n v b l => by
    have hs : cmpS n n = 0 := cmpS_zero.2 (by simp)
    simp only [Fm.cmp, cmpZ_zero.2 rfl, hs, cmps_self l, zero_nz]
theorem cmps_self : ∀ l : List Fm, cmps l l = 0
  | [] => rfl
  | f :: l => by simp only [cmps, cmp_self f, cmps_self l, zero_nz]
end
/-- Two lists of arguments that are still to be compared, as slices. -/
structure Rest where
  f : List Fm
  a : Option Addr
  c : Nat
  g : List Fm
  a' : Option Addr
  c' : Nat
def Rest.cells (r : Rest) : List Value := [.slice r.a r.f.length r.c, .slice r.a' r.g.length r.c']
def restCells (st : List Rest) : List Value := st.flatMap Rest.cells
theorem restCells_len (st : List Rest) : (restCells st).length = st.length * 2 := by
  unfold restCells
  induction st with
  | nil => rfl
  | cons r st ih => rw [List.flatMap_cons, List.length_append, ih, List.length_cons]; show 2 + _ = _; omega
theorem restCells_snoc (st : List Rest) (r : Rest) : restCells (st ++ [r]) = restCells st ++ r.cells := by simp [restCells]
theorem restCells_one (st : List Rest) : ∀ u ∈ restCells st, u.oneCell' = true := by
  intro u hu
  obtain ⟨r, _, h⟩ := List.mem_flatMap.1 hu
  simp [Rest.cells] at h
  rcases h with rfl | rfl <;> rfl
/-- What is left to be said. -/
def cmpT (st : List Rest) : Int := st.foldl (fun acc r => nz (cmps r.f r.g) acc) 0
theorem cmpT_snoc (st : List Rest) (r : Rest) : cmpT (st ++ [r]) = nz (cmps r.f r.g) (cmpT st) := by simp [cmpT]
theorem cmpT_nil : cmpT [] = 0 := rfl
def mT (st : List Rest) : Nat := (st.map fun r => 2 * sizes r.f + 1).sum
theorem mT_snoc (st : List Rest) (r : Rest) : mT (st ++ [r]) = mT st + (2 * sizes r.f + 1) := by simp [mT]
theorem restCells_set (st : List Rest) (r r' : Rest) {m : Nat} (hm : m = st.length) : ((restCells (st ++ [r])).set (m * 2) (.slice r'.a r'.f.length r'.c)).set (m * 2 + 1) (.slice r'.a' r'.g.length r'.c') = restCells (st ++ [r']) := by
  rw [restCells_snoc, restCells_snoc, hm]
  have h0 := restCells_len st
  rw [List.set_append_right _ _ (by omega), List.set_append_right _ _ (by omega), h0, Nat.sub_self, show st.length * 2 + 1 - st.length * 2 = 1 by omega]
  rfl
theorem restCells_set' (st : List Rest) (r r' : Rest) {m : Nat} (hm : m = st.length) : ((restCells (st ++ [r])).set (m * 2 + 1) (.slice r'.a' r'.g.length r'.c')).set (m * 2) (.slice r'.a r'.f.length r'.c) = restCells (st ++ [r']) := by
  rw [List.set_comm _ _ (by omega)]
  exact restCells_set st r r' hm
theorem restCells_take (st : List Rest) (r : Rest) {m : Nat} (hm : m = st.length) : (restCells (st ++ [r])).take (m * 2) = restCells st := by
  rw [restCells_snoc, hm, ← restCells_len st, List.take_left]
theorem mT_len : ∀ st : List Rest, st.length ≤ mT st
  | [] => Nat.zero_le _
  | r :: st => by
    have := mT_len st
    simp only [mT, List.map_cons, List.sum_cons, List.length_cons] at *
    omega
/-- The lists are in memory. -/
def restOk (w : World) (D E : Dom) (r : Rest) : Prop := r.f.length = r.g.length ∧ RdA w D r.f r.a r.c ∧ RdA w E r.g r.a' r.c'
theorem zip_tail {f : Fm} {l : List Fm} {sl : List (Option Addr × Nat)} (h : sl.length = (f :: l).length) : ∃ s sl', sl = s :: sl' ∧ sl'.length = l.length := by
  cases sl with
  | nil => cases h
  | cons s sl => exact ⟨s, sl, rfl, by simpa using h⟩
/-- All but the first element of a slice. -/
theorem RdA.tail {w : World} {D : Dom} {f : Fm} {l : List Fm} {b o c : Nat} (h : RdA w D (f :: l) (some ⟨b, o, none⟩) c) : RdA w D l (if c = 1 then some ⟨b, o, none⟩ else some ⟨b, o + 5, none⟩) (c - 1) := by
  obtain ⟨sl, h0, h1, h2⟩ := h.out
  obtain ⟨s, sl', rfl, hsl⟩ := zip_tail h0
  have hc : (f :: l).length ≤ c := h1.1.2.2.1
  have hcb := h1.1.2.2.2
  have hlb := h1.1.2.1
  simp only [List.length_cons] at hc hlb
  by_cases hl : l = []
  · subst hl
    exact RdA.nil _ _ _ (by omega)
  · have hpos : 0 < l.length := List.length_pos_iff.2 hl
    rw [if_neg (by omega)]
    obtain ⟨b', o', e, hb, hlt, hcell⟩ := h1.2 (by simp)
    injection e with e
    injection e with e1 e2
    subst e1 e2
    have hcs : cellsF (f :: l) (s :: sl') = fcells f s ++ cellsF l sl' := by simp [cellsF]
    have hlen := h1.1.1
    rw [hcs] at hlen hcell
    refine .mk l _ _ sl' hsl ⟨⟨?_, by omega, by omega, by omega⟩, fun _ => ⟨b, o + 5, rfl, hb, hlt, fun j u hu => ?_⟩⟩ fun i hi => ?_
    · have : (fcells f s).length = 5 := rfl
      rw [List.length_append, this] at hlen
      simp only [List.length_cons] at hlen
      omega
    · have := hcell (5 + j) u (by rw [List.getElem?_append_right (by show 5 ≤ _; omega)]; show (cellsF l sl')[5 + j - 5]? = _; rw [Nat.add_sub_cancel_left]; exact hu)
      rw [← Nat.add_assoc] at this
      exact this
    · have := h2 (i + 1) (by simp; omega)
      simpa using this
theorem Fm.ext {f g : Fm} (h0 : f.op = g.op) (h1 : f.name = g.name) (h2 : f.val = g.val) (h3 : f.bound = g.bound) (h4 : f.args = g.args) : f = g := by
  rw [← Fm.eta f, ← Fm.eta g, h0, h1, h2, h3, h4]
/-- Memory tells the formulas of a slice. -/
theorem RdA.uniq {w : World} {D : Dom} {l : List Fm} {A : Option Addr} {c : Nat} (h : RdA w D l A c) : ∀ (E : Dom) (m : List Fm), RdA w E m A c → l.length = m.length → l = m := by
  induction h with
  | mk l A c sl h1 h2 _ ih =>
    intro E m hm hlen
    obtain ⟨sm, k0, k1, k2⟩ := hm.out
    apply List.ext_getElem hlen
    intro i hi hj
    obtain ⟨b, o, e, _, _, hc⟩ := h2.2 (by omega)
    obtain ⟨b', o', e', _, _, hc'⟩ := k1.2 (by omega)
    rw [e] at e'
    injection e' with e'
    injection e' with e1 e2
    subst e1 e2
    have key : ∀ j, j < 5 → (fcells (l.getD i default) (sl.getD i (none, 0)))[j]? = (fcells (m.getD i default) (sm.getD i (none, 0)))[j]? := fun j hj' => by
      obtain ⟨u, hu⟩ : ∃ u, (fcells (l.getD i default) (sl.getD i (none, 0)))[j]? = some u := by
        refine ⟨_, List.getElem?_eq_getElem (show j < _ from ?_)⟩
        exact hj'
      obtain ⟨u', hu'⟩ : ∃ u, (fcells (m.getD i default) (sm.getD i (none, 0)))[j]? = some u := by
        refine ⟨_, List.getElem?_eq_getElem (show j < _ from ?_)⟩
        exact hj'
      have g1 := hc (i * 5 + j) u (by rw [cellsF_at h1 hi hj']; exact hu)
      have g2 := hc' (i * 5 + j) u' (by rw [cellsF_at k0 hj hj']; exact hu')
      rw [hu, hu', ← g1, ← g2]
    have e0 := key 0 (by omega)
    have e1 := key 1 (by omega)
    have e2 := key 2 (by omega)
    have e3 := key 3 (by omega)
    have e4 := key 4 (by omega)
    simp [fcells] at e0 e1 e2 e3 e4
    have hl : l[i] = l.getD i default := by simp [List.getD, hi]
    have hm' : m[i] = m.getD i default := by simp [List.getD, hj]
    rw [hl, hm']
    have hk := k2 i hj
    have hA : (sl.getD i (none, 0)).1 = (sm.getD i (none, 0)).1 := by simpa [List.getD] using e4.1
    have hC : (sl.getD i (none, 0)).2 = (sm.getD i (none, 0)).2 := by simpa [List.getD] using e4.2.2
    rw [← hA, ← hC] at hk
    exact Fm.ext (by simpa [List.getD] using e0) (by simpa [List.getD] using e1) (by simpa [List.getD] using e2) (by simpa [List.getD] using e3) (ih i hi E _ hk (by simpa [List.getD] using e4.2.1))
theorem HasF.uniq {w : World} {D E : Dom} {b o : Nat} {f g : Fm} {A A' : Option Addr} {c c' : Nat} (h : HasF w D b o f A c) (h' : HasF w E b o g A' c') : f = g := by
  have e0 := h.c0.symm.trans h'.c0
  have e1 := h.c1.symm.trans h'.c1
  have e2 := h.c2.symm.trans h'.c2
  have e3 := h.c3.symm.trans h'.c3
  have e4 := h.c4.symm.trans h'.c4
  simp at e0 e1 e2 e3 e4
  obtain ⟨rfl, e5, rfl⟩ := e4
  exact Fm.ext e0 e1 e2 e3 (h.args.uniq E _ h'.args e5)
end Go.Proofs.YtdakdpfofgkjoaaGreatDoor
set_option linter.unusedVariables false
set_option linter.unusedSimpArgs false
namespace Go.Proofs.YtdakdpfofgkjoaaGreatDoor
open Go.RowKit Go.Shelf

section
variable {P : Program} (w : World)
theorem run_sameAddr_one {a b : Addr} {ca cb : Array Value} {ta tb : TypeId} {fr : Nat × Nat} (hne : a ≠ b) (ha : w.heap[a.block]? = some (.cells ca ta (0, 0))) (hca : 0 < ca.size) (hb : w.heap[b.block]? = some (.cells cb tb fr)) (hcb : 0 < cb.size) :
    (sameAddr a b).run P w = .ok false w := by
  obtain ⟨lo, hi⟩ := fr
  by_cases hbl : a.block = b.block
  · simp [sameAddr, hbl, hne]
  · have h1 : ¬ ca.size = 0 := by omega
    have h2 : ¬ cb.size = 0 := by omega
    by_cases hf : lo ≤ b.off ∧ b.off < hi
    · simp [sameAddr, hbl, World.frozen?, ha, hb, noView, viewAt, World.shape?, mayBeOne, stringish, h1, h2, hf]
    · by_cases hg : lo ≤ cb.size ∧ cb.size < hi
      · simp [sameAddr, hbl, World.frozen?, ha, hb, noView, viewAt, World.shape?, mayBeOne, stringish, h1, h2, hf, hg]
      · simp [sameAddr, hbl, World.frozen?, ha, hb, noView, viewAt, World.shape?, mayBeOne, stringish, h1, h2, hf, hg]
theorem run_sameAddr_two {a b : Addr} {ca cb : Array Value} {ta tb : TypeId} {fr : Nat × Nat} (hne : a ≠ b) (ha : w.heap[a.block]? = some (.cells ca ta fr)) (hca : 0 < ca.size) (hb : w.heap[b.block]? = some (.cells cb tb (0, 0))) (hcb : 0 < cb.size) :
    (sameAddr a b).run P w = .ok false w := by
  obtain ⟨lo, hi⟩ := fr
  by_cases hbl : a.block = b.block
  · simp [sameAddr, hbl, hne]
  · have h1 : ¬ ca.size = 0 := by omega
    have h2 : ¬ cb.size = 0 := by omega
    by_cases hf : lo ≤ a.off ∧ a.off < hi
    · simp [sameAddr, hbl, World.frozen?, ha, hb, noView, viewAt, World.shape?, mayBeOne, stringish, h1, h2, hf]
    · by_cases hg : lo ≤ ca.size ∧ ca.size < hi
      · simp [sameAddr, hbl, World.frozen?, ha, hb, noView, viewAt, World.shape?, mayBeOne, stringish, h1, h2, hf, hg]
      · simp [sameAddr, hbl, World.frozen?, ha, hb, noView, viewAt, World.shape?, mayBeOne, stringish, h1, h2, hf, hg]
theorem run_eql_ptr_by {tp te : TypeId} {j : TypeInfo} {a b : Addr} {r : Bool} (hp : P.underlying tp = some (.pointer te)) (hte : P.info? te = some j) (hsz : j.size ≠ 0) (h : (sameAddr a b).run P w = .ok r w) :
    (binOp .eql tp (.pointer (some a)) (.pointer (some b))).run P w = .ok (.bool r) w := by
  have h : ∀ d : Nat, (Op.equalIn (d + 1) tp (.pointer (some a)) (.pointer (some b))).run P w = .ok r w := fun d => by
    simp [Op.equalIn, run_underlying hp, sizeOf, typeInfo, hte, hsz, h]
  simp only [binOp]
  simp [Op.equal, Op.maxDepth, h 9999]
end
/-- The block is no string's memory. -/
def Cl (w : World) (b : Nat) : Prop := ∃ cs t, w.heap[b]? = some (.cells cs t (0, 0))
theorem Cl.of_eq {w w' : World} {b : Nat} (h : Cl w b) (he : w'.heap[b]? = w.heap[b]?) : Cl w' b := by
  obtain ⟨cs, t, h⟩ := h
  exact ⟨cs, t, he.trans h⟩
theorem Cl.set {w : World} {b : Nat} (h : Cl w b) (c o : Nat) (v : Value) : Cl (w.setCell ⟨c, o, none⟩ v) b := by
  obtain ⟨cs, t, h⟩ := h
  by_cases e : c = b
  · subst e
    exact ⟨_, t, set_block h v⟩
  · exact ⟨cs, t, (Below.heap_setCell w ⟨c, o, none⟩ v b (fun h => e h.symm)).trans h⟩
theorem Cl.lt {w : World} {b : Nat} (h : Cl w b) : b < w.heap.size := by
  obtain ⟨cs, t, h⟩ := h
  exact lt_of_block h
theorem cell_block {w : World} {b o : Nat} {v : Value} (h : w.cell? ⟨b, o, none⟩ = some v) : ∃ cs t fr, w.heap[b]? = some (.cells cs t fr) ∧ 0 < cs.size := by
  unfold World.cell? at h
  split at h
  · rename_i cs t fr he
    refine ⟨_, _, _, he, ?_⟩
    simp at h
    have := (Array.getElem?_eq_some_iff.1 h).1
    omega
  · cases h
set_option maxRecDepth 100000 in
/-- '==' of two pointers to formulas, where one lies in clean memory. -/
theorem eql_formulas {w : World} {b o b' o' : Nat} {v v' : Value} (h : w.cell? ⟨b, o, none⟩ = some v) (h' : w.cell? ⟨b', o', none⟩ = some v') (hc : Cl w b ∨ Cl w b') (hne : ¬ (b = b' ∧ o = o')) :
    (binOp .eql 64 (.pointer (some ⟨b, o, none⟩)) (.pointer (some ⟨b', o', none⟩))).run Tryz.prog w = .ok (.bool false) w := by
  obtain ⟨cs, t, fr, hb, hs⟩ := cell_block h
  obtain ⟨cs', t', fr', hb', hs'⟩ := cell_block h'
  have hne' : (⟨b, o, none⟩ : Addr) ≠ ⟨b', o', none⟩ := fun e => by
    injection e with e1 e2
    exact hne ⟨e1, e2⟩
  obtain ⟨j, hj, hz⟩ : ∃ j, Tryz.prog.info? 28 = some j ∧ j.size ≠ 0 := by
    have h0 : (Tryz.prog.info? 28).map (fun i => i.size) = some 5 := by kernel_rfl
    obtain ⟨j, hj, hs⟩ := Option.map_eq_some_iff.1 h0
    exact ⟨j, hj, by omega⟩
  refine run_eql_ptr_by w Tryz.underlying64 hj hz ?_
  rcases hc with ⟨cs2, t2, h2⟩ | ⟨cs2, t2, h2⟩
  · rw [hb] at h2
    injection h2 with h2
    injection h2 with e1 e2 e3
    subst e1 e2 e3
    exact run_sameAddr_one w hne' hb hs hb' hs'
  · rw [hb'] at h2
    injection h2 with h2
    injection h2 with e1 e2 e3
    subst e1 e2 e3
    exact run_sameAddr_two w hne' hb hs hb' hs'
set_option maxRecDepth 100000 in
theorem eql_formula_same {w : World} {b o : Nat} : (binOp .eql 64 (.pointer (some ⟨b, o, none⟩)) (.pointer (some ⟨b, o, none⟩))).run Tryz.prog w = .ok (.bool true) w := by
  obtain ⟨j, hj⟩ : ∃ j, Tryz.prog.info? 28 = some j := by
    have h0 : (Tryz.prog.info? 28).map (fun i => i.size) = some 5 := by kernel_rfl
    obtain ⟨j, hj, hs⟩ := Option.map_eq_some_iff.1 h0
    exact ⟨j, hj⟩
  exact run_eql_ptr_same w _ Tryz.underlying64 hj
end Go.Proofs.YtdakdpfofgkjoaaGreatDoor
