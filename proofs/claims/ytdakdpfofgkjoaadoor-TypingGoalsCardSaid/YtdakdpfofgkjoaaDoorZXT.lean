/-
  What the last regions of TypingGoals rest on: one more requirement, and the goal's box.
-/
import Derived.Test.YtdakdpfofgkjoaaDoorZXR
import Derived.Test.YtdakdpfofgkjoaaDoorZXJ
set_option linter.unusedVariables false
set_option linter.unusedSimpArgs false
namespace Go.Proofs.YtdakdpfofgkjoaaDoor
open Go.RowKit Go.Shelf

theorem qcells_oneL (q : List Rq) (sm : List (Option Addr × Nat)) : ∀ u ∈ cellsQ q sm, u.oneCell' = true := by
  intro u hu
  unfold cellsQ at hu
  obtain ⟨p, _, hu⟩ := List.mem_flatMap.1 hu
  exact qcells_one _ _ u hu
/-- The requirement truth in memory. -/
def TR (k o : Int) : Obj := .cells #[.string sOther, .string sTruth, .int .i64 k, .int .i64 o, .string ⟨#[]⟩, .int .i64 0, .int .i64 0, .slice none 0 0] 43 (0, 0)
def EMR : Obj := .cells #[] 43 (0, 0)
def ZBX : Obj := .cells #[.int .i64 0, .string ⟨#[]⟩, .int .i64 0, .int .i64 0, .slice none 0 0] 25 (0, 0)
theorem rd_tr {w : World} {t : Nat} {k o : Int} (h : w.heap[t]? = some (TR k o)) : Rd w AnyD 8 (some ⟨t, 0, none⟩) 1 1 (qcells (addR k o) (none, 0)) :=
  ⟨⟨rfl, by omega, Nat.le_refl _, by omega⟩, fun _ => ⟨t, 0, rfl, trivial, lt_of_block h, fun j u hu => by
    rw [Nat.zero_add]
    refine block_cell h ?_
    rw [← Array.getElem?_toList]
    exact hu⟩⟩
theorem at_drew (w : World) (i : Nat) : (World.drew w).heap[i]? = w.heap[i]? := rfl
theorem lt_heap {w : World} {i : Nat} {x : Obj} (h : w.heap[i]? = some x) : i < w.heap.size := by
  rcases Nat.lt_or_ge i w.heap.size with h1 | h1
  · exact h1
  · rw [Array.getElem?_eq_none h1] at h; cases h
section
variable {w U : World} {ops : Array Oper} {o : Oper} {a : Act} {K : Act → World → Prop} {Q : Exit → Act → World → Prop} {E : Prop}
/-- append(empty, row). -/
theorem step_tr1 (hgd : o.guard = none) (s x : Operand) (ho : o.op = .call { callee := .builtin .append, args := #[s, x], argTypes := #[34, 34] })
    (g n d : Nat) (B : Option Addr) (news : List Value) (hs : a.eval s = .slice (some ⟨g, 0, none⟩) 0 0) (hx : a.eval x = .slice B n d)
    (he : w.heap[g]? = some EMR) (hg : U.heap.size ≤ g) (hb : Below U.heap.size U w) (hr : Rd w AnyD 8 B n d news) (h1 : ∀ u ∈ news, u.oneCell' = true) (hn : n ≤ 15)
    (h : ∀ A' c' w', w'.ownsRow U.heap.size 43 8 (.slice A' n c') n news → (∀ (k : Nat) (x : Obj), k ≠ g → w.heap[k]? = some x → w'.heap[k]? = some x) → Below U.heap.size U w' → K (a.put o.dst (.slice A' n c')) w') :
    if Region.wanted o (yielded ops a.tmps) = true then Oper.wp Tryd.prog o a w K Q else E := by
  obtain ⟨i0, hti, hz0, hz1, hz2⟩ := info_parts req_info
  have hz2' : i0.bytes = 104 := hz2
  refine step_append_rd0 hgd s x 34 ho U.heap.size 43 i0 _ 8 104 Tryd.underlying34 hti hz0 hz1 hz2' rfl (by omega) (.slice (some ⟨g, 0, none⟩) 0 0) hs (own_empty hg he) AnyD B n d news hx hr h1 (by omega) (maxLen_le (by omega)) hb.size fun A' c' w' h2 h3 => ?_
  exact h A' c' w' h2 (fun k y hk hy => (h3.block k (lt_heap hy) (fun e => hk (Option.some.inj (show some k = some g from e)))).trans hy) (Below.grown hb h3 hb.size (fun j hj => by injection hj with hj; have : g = j := hj; omega))
theorem own_not_box {w : World} {base n k : Nat} {v : Value} {xs : List Value} {cs : Array Value} {fr : Nat × Nat} (h : w.ownsRow base 43 8 v n xs) (hk : w.heap[k]? = some (.cells cs 25 fr)) : v.ownBlock ≠ some k := by
  intro e
  rcases h.2 with ⟨h0, _⟩ | ⟨g, cap, cur, hv, hb, hg, _⟩
  · rw [h0] at e; cases e
  · rw [hv] at e
    injection e with e
    have : g = k := e
    subst this
    rw [hk] at hg
    injection hg with hg
    injection hg with _ hg _
    exact absurd hg (by decide)
/-- append(row, truth). -/
theorem step_tr2 {kd op : Int} (hgd : o.guard = none) (s x : Operand) (ho : o.op = .call { callee := .builtin .append, args := #[s, x], argTypes := #[34, 34] })
    (t n c : Nat) (A : Option Addr) (xs : List Value) (hs : a.eval s = .slice A n c) (hx : a.eval x = .slice (some ⟨t, 0, none⟩) 1 1)
    (ht : w.heap[t]? = some (TR kd op)) (hown : w.ownsRow U.heap.size 43 8 (.slice A n c) n xs) (hb : Below U.heap.size U w) (hn : n ≤ 15)
    (h : ∀ A' c' w', w'.ownsRow U.heap.size 43 8 (.slice A' (n + 1) c') (n + 1) (xs ++ qcells (addR kd op) (none, 0)) → (∀ (k : Nat) (cs : Array Value), w.heap[k]? = some (.cells cs 25 (0, 0)) → w'.heap[k]? = some (.cells cs 25 (0, 0))) → Below U.heap.size U w' → K (a.put o.dst (.slice A' (n + 1) c')) w') :
    if Region.wanted o (yielded ops a.tmps) = true then Oper.wp Tryd.prog o a w K Q else E := by
  obtain ⟨i0, hti, hz0, hz1, hz2⟩ := info_parts req_info
  have hz2' : i0.bytes = 104 := hz2
  refine step_append_rd w hgd s x 34 ho U.heap.size 43 i0 _ 8 104 Tryd.underlying34 hti hz0 hz1 hz2' rfl (by omega) (.slice A n c) n xs hs hown AnyD (some ⟨t, 0, none⟩) 1 1 _ hx (rd_tr ht) (qcells_one _ _) (by omega) (maxLen_le (by omega)) hb.size fun A' c' w' h2 h3 _ => ?_
  exact h A' c' w' h2 (fun k cs hk => (h3.block k (lt_heap hk) (own_not_box hown hk).symm).trans hk) (Below.grown hb h3 hb.size (fun j hj => (own_ge hown hj).1))
end
/-- The requirements with one more. -/
theorem BackI.add {U w : World} {pb : Nat} {AS : Option Addr} {nS cS d : Nat} {B : Option Addr} {q : List Rq} {sm : List (Option Addr × Nat)} {A : Option Addr} {c : Nat} {gs : List Fm} {sl : List (Option Addr × Nat)} {A' : Option Addr} {c' : Nat} {k o : Int} (h : BackI U (pb + 1) pb AS nS cS B d q sm A c gs sl) (hb : Below U.heap.size U w)
    (hown : w.ownsRow U.heap.size 43 8 (.slice A' (q.length + 1) c') (q.length + 1) (cellsQ q sm ++ qcells (addR k o) (none, 0))) (hn : q.length ≤ 15) : RdR w AnyD A' c' (q ++ [addR k o]) := by
  have e1 : cellsQ [addR k o] [((none : Option Addr), 0)] = qcells (addR k o) (none, 0) := by show qcells _ _ ++ [] = _; rw [List.append_nil]
  have e2 : (q ++ [addR k o]).length = q.length + 1 := by simp
  refine ⟨sm ++ [(none, 0)], by rw [List.length_append, List.length_append, h.lq]; rfl, ?_, fun i hi => ?_⟩
  · rw [cellsQ_append h.lq, e1, e2]
    exact Rd.own hown (by omega) fun _ _ => trivial
  · by_cases hl : i < q.length
    · have e1 : (q ++ [addR k o]).getD i default = q.getD i default := by simp [List.getD, List.getElem?_append_left hl]
      have e2 : (sm ++ [((none : Option Addr), 0)]).getD i (none, 0) = sm.getD i (none, 0) := by simp [List.getD, List.getElem?_append_left (show i < sm.length by rw [h.lq]; exact hl)]
      rw [e1, e2]
      exact (h.aq i hl).any hb
    · have hi' : i = q.length := by rw [List.length_append] at hi; simp at hi; omega
      subst hi'
      have e1 : (q ++ [addR k o]).getD q.length default = addR k o := by simp [List.getD]
      have e2 : (sm ++ [((none : Option Addr), 0)]).getD q.length (none, 0) = (none, 0) := by rw [← h.lq]; simp [List.getD]
      rw [e1, e2]
      exact RdA.nil _ _ _ (by omega)
/-- Block b, laid behind W, holds the zero formula. -/
structure NBt (W U : World) (b : Nat) : Prop where
  ob : U.heap[b]? = some ZBX
  ge : W.heap.size ≤ b
theorem NBt.below {W U U' : World} {b : Nat} (h : NBt W U b) (hb : Below U.heap.size U U') : NBt W U' b := ⟨(hb.block _ (lt_heap h.ob)).trans h.ob, h.ge⟩
/-- The box of a goal, laid behind W. -/
structure GBox (W U : World) (g : Fm) (b : Nat) (A : Option Addr) (c : Nat) : Prop where
  ob : OB U b g.op g.name g.val g.bound A g.args.length c
  ge : W.heap.size ≤ b
  rd : RdA U (fun x => W.heap.size ≤ x) g.args A c
theorem GBox.below {W U U' : World} {g : Fm} {b : Nat} {A : Option Addr} {c : Nat} (h : GBox W U g b A c) (hb : Below U.heap.size U U') : GBox W U' g b A c := ⟨h.ob.below hb, h.ge, h.rd.belowD hb⟩
/-- Blocks of before are stored into. -/
theorem GBox.chg {W U U' : World} {g : Fm} {b t : Nat} {A : Option Addr} {c : Nat} (h : GBox W U g b A c) (hc : Chg (fun x => x = t) U U') (ht : t < W.heap.size) : GBox W U' g b A c :=
  ⟨hc.box h.ob (by have := h.ge; intro e; omega), h.ge, h.rd.keep (hc.keeps fun k _ hk hv => by have hk' : W.heap.size ≤ k := hk; omega)⟩
theorem GBox.vf {W U : World} {g : Fm} {b : Nat} {A : Option Addr} {c : Nat} (h : GBox W U g b A c) : VF U g.op g.name g.val g.bound A g.args.length c g := VF.of h.rd
theorem GBox.base {W W' U : World} {g : Fm} {b : Nat} {A : Option Addr} {c : Nat} (h : GBox W U g b A c) (hs : W'.heap.size ≤ W.heap.size) : GBox W' U g b A c := ⟨h.ob, Nat.le_trans hs h.ge, h.rd.mono fun x hx _ => Nat.le_trans hs hx⟩
theorem gb_old {W U WE : World} {r : Nat} {A : Option Addr} {c : Nat} {g : Fm} (h : NBt W U r) (hW : Below W.heap.size W U) (hf : RdA U (fun x => W.heap.size ≤ x) g.args A c) (hz : ∀ f, f ∈ g.args → ∃ ins, allI nzQ ins f)
    (hWE : WE = (((((U.setCell ⟨r, 0, none⟩ (.int .i64 g.op)).setCell ⟨r, 1, none⟩ (.string g.name)).setCell ⟨r, 2, none⟩ (.int .i64 g.val)).setCell ⟨r, 3, none⟩ (.int .i64 g.bound)).setCell ⟨r, 4, none⟩ (.slice A g.args.length c))) :
    GBox W WE g r A c ∧ Below W.heap.size W WE := by
  subst hWE
  have hob : OB U r 0 ⟨#[]⟩ 0 0 none 0 0 := h.ob
  have hge := h.ge
  have hc := set5_chg0 U r (.int .i64 g.op) (.string g.name) (.int .i64 g.val) (.int .i64 g.bound) (.slice A g.args.length c)
  exact ⟨⟨set5_OB hob, h.ge, ((hf.avoid hob hz).keep (hc.keeps fun k _ hk hv => hk.2 hv)).mono fun _ h _ => h.1⟩, hW.trans (hc.below (B := W.heap.size) (fun x hx h => by omega) hW.size)⟩
theorem gb_new {W U WE : World} {A : Option Addr} {c : Nat} {g : Fm} (hW : Below W.heap.size W U) (hf : RdA U (fun x => W.heap.size ≤ x) g.args A c)
    (hWE : WE = U.alloc (.cells #[.int .i64 g.op, .string g.name, .int .i64 g.val, .int .i64 g.bound, .slice A g.args.length c] 25)) : GBox W WE g U.heap.size A c ∧ Below W.heap.size W WE := by
  have hb : Below U.heap.size U WE := by rw [hWE]; exact (Below.refl _ _).alloc (Nat.le_refl _) _
  exact ⟨⟨by rw [hWE]; exact at_new _ _ _ rfl, hW.size, hf.belowD hb⟩, belNx hW hb⟩
theorem goal_litd {D E : Dom} {w : World} {l : List Sg} {rs : List Rq} {AS AR : Option Addr} {n m cS cR : Nat} (g : Fm) (r : Int) (hz : goalZ l rs = (g, r)) (hn : n = l.length) (hl : RdG w D AS cS l) (hm : m = rs.length) (hr : RdR w E AR cR rs) (hg : GF w) (hk : GK w) :
    Calls Tryd.prog 13 #[.agg #[.slice AS n cS, .slice AR m cR]] w fun e w' => ∃ A' c', e = .returned (.tuple #[.agg #[.int .i64 g.op, .string g.name, .int .i64 g.val, .int .i64 g.bound, .slice A' g.args.length c'], .int .i64 r]) ∧ RdA w' (fun x => w.heap.size ≤ x) g.args A' c' ∧ Below w.heap.size w w' :=
  (goal_any l rs AS n cS AR m cR w hn hl hm hr hg hk).mono fun e w' ⟨A', c', e1, h1, hb⟩ => by
    rw [hz] at e1 h1
    exact ⟨A', c', e1, h1, hb⟩
theorem goal_nz {l : List Sg} {rs : List Rq} {g : Fm} (h : goalZ l rs = (g, 0)) : ∀ f, f ∈ g.args → ∃ ins, allI nzQ ins f := by
  have hg : Good l rs := goal_ok (by rw [h])
  have hl : lastZ rs = (g, 0) := (goal_good hg).symm.trans h
  have ⟨_, h2, h3⟩ := last_ok (rs := rs) (by rw [hl])
  rw [hl] at h3
  have h4 := connZ_ok (.inr rfl) h2
  intro f hf
  have hb : allI bareQ false g := by
    have h5 : looseB g = true := by
      have h3' : g = _ := h3
      rw [h3']
      exact h4.2.1
    exact (loose_out h5).2.2
  exact ⟨_, (allI_iff.1 (allI_imp bareQ_nz hb)).2 f hf⟩
theorem goal_up {U w7 cur W9 : World} {g : Fm} {A : Option Addr} {c : Nat} (h7 : Below U.heap.size U w7) (hc : Below w7.heap.size w7 cur) (h9 : Below cur.heap.size cur W9) (hv : RdA W9 (fun x => cur.heap.size ≤ x) g.args A c) : RdA W9 (fun x => U.heap.size ≤ x) g.args A c ∧ Below U.heap.size U W9 :=
  have h := belNx h7 hc
  ⟨hv.mono fun x hx _ => Nat.le_trans h.size hx, belNx h h9⟩
theorem nbt_new {U w7 W9 : World} (h7 : Below U.heap.size U w7) (h : Below (w7.alloc ZBX).heap.size (w7.alloc ZBX) W9) : NBt U W9 w7.heap.size :=
  ⟨(h.block _ (by simp)).trans (at_new _ _ _ rfl), h7.size⟩
theorem nbt_newd {U w7 W9 : World} (h7 : Below U.heap.size U w7) (h : Below (World.drew (w7.alloc ZBX)).heap.size (World.drew (w7.alloc ZBX)) W9) : NBt U W9 w7.heap.size := nbt_new h7 ⟨h.os, h.tape, h.output, h.size, h.block⟩
theorem nbt_keep {U w6 cur w7 : World} {b : Nat} (h : NBt U w6 b) (hc : Below w6.heap.size w6 cur) (hk : ∀ (k : Nat) (cs : Array Value), cur.heap[k]? = some (.cells cs 25 (0, 0)) → w7.heap[k]? = some (.cells cs 25 (0, 0))) : NBt U w7 b :=
  ⟨hk _ _ ((hc.block _ (lt_heap h.ob)).trans h.ob), h.ge⟩
theorem nbt_mk {U cur w7 : World} {n : Nat} (hk : ∀ (k : Nat) (cs : Array Value), cur.heap[k]? = some (.cells cs 25 (0, 0)) → w7.heap[k]? = some (.cells cs 25 (0, 0))) (hx : cur.heap[n]? = some ZBX) (hn : U.heap.size ≤ n) : NBt U w7 n := ⟨hk _ _ hx, hn⟩
theorem kept_at {w w' : World} {g n : Nat} {x : Obj} (hk : ∀ (k : Nat) (x : Obj), k ≠ g → w.heap[k]? = some x → w'.heap[k]? = some x) (hn : n ≠ g) (hx : w.heap[n]? = some x) : w'.heap[n]? = some x := hk n x hn hx
theorem keep_set {U w9 : World} {b : Nat} (h : NBt U w9 b) (hb : Below U.heap.size U w9) (v0 v1 v2 v3 v4 : Value) : Below U.heap.size U (((((w9.setCell ⟨b, 0, none⟩ v0).setCell ⟨b, 1, none⟩ v1).setCell ⟨b, 2, none⟩ v2).setCell ⟨b, 3, none⟩ v3).setCell ⟨b, 4, none⟩ v4) :=
  hb.trans ((set5_chg0 w9 b v0 v1 v2 v3 v4).below (B := U.heap.size) (fun x hx e => by have := h.ge; omega) hb.size)
theorem NBt.box {W U : World} {b : Nat} (h : NBt W U b) : OB U b 0 ⟨#[]⟩ 0 0 none 0 0 := h.ob
theorem have_then {P Q : Prop} (h : P) (k : P → Q) : Q := k h
theorem TR.cells {w : World} {t : Nat} {k o : Int} (h : w.heap[t]? = some (TR k o)) : w.cell? ⟨t, 0, none⟩ = some (.string sOther) ∧ w.cell? ⟨t, 1, none⟩ = some (.string sTruth) ∧ w.cell? ⟨t, 2, none⟩ = some (.int .i64 k) ∧ w.cell? ⟨t, 3, none⟩ = some (.int .i64 o) ∧ w.cell? ⟨t, 4, none⟩ = some (.string ⟨#[]⟩) ∧ w.cell? ⟨t, 5, none⟩ = some (.int .i64 0) ∧ w.cell? ⟨t, 6, none⟩ = some (.int .i64 0) ∧ w.cell? ⟨t, 7, none⟩ = some (.slice none 0 0) :=
  ⟨block_cell h (i := 0) rfl, block_cell h (i := 1) rfl, block_cell h (i := 2) rfl, block_cell h (i := 3) rfl, block_cell h (i := 4) rfl, block_cell h (i := 5) rfl, block_cell h (i := 6) rfl, block_cell h (i := 7) rfl⟩
/-- What the law rests on. -/
structure GoaB (w : World) (l : List Sg) (rs : List Rq) (sb gb pb : Nat) (AS : Option Addr) (cS : Nat) (AR : Option Addr) (cR : Nat) (G0 : Fm) (A : Option Addr) (c : Nat) : Prop where
  g : GF w
  k : GK w
  s : SpecAt w sb AS l.length cS AR rs.length cR
  o : OB w gb G0.op G0.name G0.val G0.bound A G0.args.length c
  l : RdG w AnyD AS cS l
  r : RdR w (· < pb) AR cR rs
  v : VF w G0.op G0.name G0.val G0.bound A G0.args.length c G0
theorem GoaB.below {w w' : World} {l : List Sg} {rs : List Rq} {sb gb pb : Nat} {AS : Option Addr} {cS : Nat} {AR : Option Addr} {cR : Nat} {g : Fm} {A : Option Addr} {c : Nat} (h : GoaB w l rs sb gb pb AS cS AR cR g A c) (hb : Below w.heap.size w w') : GoaB w' l rs sb gb pb AS cS AR cR g A c :=
  ⟨h.g.below hb h.g.pos, h.k.below hb h.k.pos, h.s.below hb, h.o.below hb, h.l.any hb, h.r.belowD hb, h.v.below hb⟩
def regOf7 (k : Nat) : Code → Option Code
  | .region m ops d => if m == k then some (.region m ops d) else none
  | .seq a b => match regOf7 k a with
    | some c => some c
    | none => regOf7 k b
  | .block _ c => regOf7 k c
  | .scope c => regOf7 k c
  | .loop c => regOf7 k c
  | .cond _ a b => match regOf7 k a with
    | some c => some c
    | none => regOf7 k b
  | _ => none
end Go.Proofs.YtdakdpfofgkjoaaDoor
