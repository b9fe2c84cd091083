/-
  A controller while it is made row by row: what each append leaves.
-/
import Derived.Test.YtfabdpnjjondaaaB6
set_option linter.unusedVariables false
set_option linter.unusedSimpArgs false
namespace Go.Proofs.Ytfabdpnjjondaaa
open Go.RowKit
attribute [local go_sem] cell_alloc_old

/-- Blocks below B, and rows of ints. -/
def IB (wr : World) (B : Nat) : Dom := fun b => b < B ∨ ∃ cs fr, wr.heap[b]? = some (.cells cs 3 fr)
/-- The values vs are the rows. -/
def Rows (wr : World) (B : Nat) (rows : List (List Int)) (vs : List Value) : Prop :=
  ∀ i, i < rows.length → ∃ A c, vs[i]? = some (.slice A (rows.getD i []).length c) ∧ RdI wr (IB wr B) A c (rows.getD i [])
theorem Rows.nil (wr : World) (B : Nat) (vs : List Value) : Rows wr B [] vs := fun _ h => absurd h (Nat.not_lt_zero _)
section
variable {wr wr' : World} {B : Nat} {rows : List (List Int)} {vs : List Value}
theorem Rows.keep (h : Rows wr B rows vs) (hk : Keeps (IB wr B) wr wr') : Rows wr' B rows vs := fun i hi => by
  obtain ⟨A, c, h1, h2⟩ := h i hi
  refine ⟨A, c, h1, (h2.keep hk).mono fun b hb _ => ?_⟩
  rcases hb with hb | ⟨cs, fr, hb⟩
  · exact .inl hb
  · exact .inr ⟨cs, fr, (hk.block b (.inr ⟨cs, fr, hb⟩) (lt_of_block hb)).trans hb⟩
theorem Rows.snoc (h : Rows wr B rows vs) (hl : vs.length = rows.length) {A : Option Addr} {c : Nat} {r : List Int} (hr : RdI wr (IB wr B) A c r) : Rows wr B (rows ++ [r]) (vs ++ [.slice A r.length c]) := fun i hi => by
  rw [List.length_append, List.length_singleton] at hi
  by_cases e : i < rows.length
  · obtain ⟨A', c', h1, h2⟩ := h i e
    have e1 : (rows ++ [r]).getD i [] = rows.getD i [] := by simp [List.getD, List.getElem?_append, e]
    rw [e1]
    refine ⟨A', c', ?_, h2⟩
    rw [List.getElem?_append, if_pos (by omega)]; exact h1
  · obtain rfl : i = rows.length := by omega
    have e1 : (rows ++ [r]).getD rows.length [] = r := by simp [List.getD, List.getElem?_append]
    rw [e1]
    refine ⟨A, c, ?_, hr⟩
    rw [List.getElem?_append, if_neg (by omega), hl, Nat.sub_self]; rfl
end

/-- The controller in block b; block number w.heap.size holds what came in. -/
structure Tw (w wr : World) (b : Nat) (cs : Array Value) (i o s : Int) (orows : List (List Int)) (Ao : Option Addr) (co : Nat) (vo : List Value) (nrows : List (List Int)) (An : Option Addr) (cn : Nat) (vn : List Value) : Prop where
  below : Below w.heap.size w wr
  hb : w.heap.size + 1 ≤ b
  box : wr.heap[w.heap.size]? = some (.cells cs 35 (0, 0))
  mly : wr.heap[b]? = some (.cells #[.int .i64 i, .int .i64 o, .int .i64 s, .slice Ao orows.length co, .slice An nrows.length cn] 35 (0, 0))
  oo : wr.ownsRow w.heap.size 23 1 (.slice Ao orows.length co) orows.length vo
  on : wr.ownsRow w.heap.size 23 1 (.slice An nrows.length cn) nrows.length vn
  ro : Rows wr w.heap.size orows vo
  rn : Rows wr w.heap.size nrows vn
  dis : ∀ b, some b = (Value.slice Ao orows.length co).ownBlock → some b ≠ (Value.slice An nrows.length cn).ownBlock
section
variable {w wr w5 : World} {b : Nat} {cs : Array Value} {i o s : Int} {orows nrows : List (List Int)} {Ao An A5 : Option Addr} {co cn c5 : Nat} {vo vn : List Value}
theorem Tw.after {wr' : World} (h : Tw w wr b cs i o s orows Ao co vo nrows An cn vn) (hb : Below wr.heap.size wr wr') : Tw w wr' b cs i o s orows Ao co vo nrows An cn vn := by
  have hk : Keeps (IB wr w.heap.size) wr wr' := ⟨hb.size, fun b _ hl => hb.block b hl⟩
  exact ⟨h.below.trans (hb.mono h.below.size), h.hb, (hb.block _ (lt_of_block h.box)).trans h.box, (hb.block _ (lt_of_block h.mly)).trans h.mly, own_below h.oo hb, own_below h.on hb, h.ro.keep hk, h.rn.keep hk, h.dis⟩
theorem Tw.cells (h : Tw w wr b cs i o s orows Ao co vo nrows An cn vn) : wr.cell? ⟨b, 0, none⟩ = some (.int .i64 i) ∧ wr.cell? ⟨b, 1, none⟩ = some (.int .i64 o) ∧ wr.cell? ⟨b, 2, none⟩ = some (.int .i64 s) ∧
    wr.cell? ⟨b, 3, none⟩ = some (.slice Ao orows.length co) ∧ wr.cell? ⟨b, 4, none⟩ = some (.slice An nrows.length cn) ∧ b < wr.heap.size ∧
    wr.frozen? ⟨b, 3, none⟩ = false ∧ wr.frozen? ⟨b, 4, none⟩ = false :=
  ⟨block_cell h.mly rfl, block_cell h.mly rfl, block_cell h.mly rfl, block_cell h.mly rfl, block_cell h.mly rfl, lt_of_block h.mly, block_free h.mly, block_free h.mly⟩
/-- A row of rows grows, and a cell of the controller is set. -/
theorem Tw.grow {base n : Nat} {v : Value} {xs : List Value} (h : Tw w wr b cs i o s orows Ao co vo nrows An cn vn) (ho : wr.ownsRow w.heap.size 23 1 v n xs) (hg : wr.grownBy w5 v.ownBlock) (j : Nat) (u : Value) :
    (∀ k, k ≠ b → k < wr.heap.size → some k ≠ v.ownBlock → (w5.setCell ⟨b, j, none⟩ u).heap[k]? = wr.heap[k]?) ∧ Below w.heap.size w (w5.setCell ⟨b, j, none⟩ u) ∧
      (w5.setCell ⟨b, j, none⟩ u).heap[w.heap.size]? = some (.cells cs 35 (0, 0)) ∧ Keeps (IB wr w.heap.size) wr (w5.setCell ⟨b, j, none⟩ u) ∧
      w5.heap[b]? = some (.cells #[.int .i64 i, .int .i64 o, .int .i64 s, .slice Ao orows.length co, .slice An nrows.length cn] 35 (0, 0)) := by
  have hb := h.hb
  have hs := lt_of_block h.mly
  have key : ∀ k, k ≠ b → k < wr.heap.size → some k ≠ v.ownBlock → (w5.setCell ⟨b, j, none⟩ u).heap[k]? = wr.heap[k]? := fun k h1 h2 h3 => by
    rw [Below.heap_setCell _ _ _ _ h1]
    exact hg.block k h2 h3
  have hsz : wr.heap.size ≤ (w5.setCell ⟨b, j, none⟩ u).heap.size := by simpa using hg.size
  refine ⟨key, Below.setCell (Below.grown h.below hg h.below.size (fun k hk => (ho.lt k hk).1)) (by simp; omega) _, (key _ (by omega) (by omega) (fun e => own_ne ho h.box (by decide) e.symm)).trans h.box, ⟨hsz, fun k hk hl => ?_⟩,
    (hg.block _ hs (fun e => own_ne ho h.mly (by decide) e.symm)).trans h.mly⟩
  rcases hk with hk | ⟨ds, fr, hk⟩
  · exact key k (by omega) hl (fun e => by have := (ho.lt k e.symm).1; omega)
  · refine key k (fun e => ?_) hl (fun e => own_ne ho hk (by decide) e.symm)
    subst e
    rw [h.mly] at hk
    injection hk with hk
    injection hk with _ hk
    exact absurd hk (by decide)
theorem Tw.next (h : Tw w wr b cs i o s orows Ao co vo nrows An cn vn) {Ar : Option Addr} {cr : Nat} {r : List Int} (hr : RdI wr (IB wr w.heap.size) Ar cr r) (hg : wr.grownBy w5 (Value.slice An nrows.length cn).ownBlock)
    (hown : w5.ownsRow w.heap.size 23 1 (.slice A5 (nrows.length + 1) c5) (nrows.length + 1) (vn ++ [.slice Ar r.length cr]))
    (hat : (Value.slice A5 (nrows.length + 1) c5).ownBlock = (Value.slice An nrows.length cn).ownBlock ∨ (Value.slice A5 (nrows.length + 1) c5).ownBlock = some wr.heap.size) :
    Tw w (w5.setCell ⟨b, 4, none⟩ (.slice A5 (nrows.length + 1) c5)) b cs i o s orows Ao co vo (nrows ++ [r]) A5 c5 (vn ++ [.slice Ar r.length cr]) := by
  have hl : (nrows ++ [r]).length = nrows.length + 1 := by simp
  obtain ⟨key, hbw, hx, hk, hc⟩ := h.grow (base := 0) h.on hg 4 (.slice A5 (nrows.length + 1) c5)
  have hlen : vn.length = nrows.length := by have := h.on.1; simpa using this
  have hk2 : RdI (w5.setCell ⟨b, 4, none⟩ (.slice A5 (nrows.length + 1) c5)) (IB (w5.setCell ⟨b, 4, none⟩ (.slice A5 (nrows.length + 1) c5)) w.heap.size) Ar cr r := (hr.keep hk).mono fun b' hb' _ => by
    rcases hb' with hb' | ⟨ds, fr, hb'⟩
    · exact .inl hb'
    · exact .inr ⟨ds, fr, (hk.block b' (.inr ⟨ds, fr, hb'⟩) (lt_of_block hb')).trans hb'⟩
  refine ⟨hbw, h.hb, hx, by rw [hl]; exact set_block hc _, own_agree h.oo fun k e => key k (fun x => own_ne h.oo h.mly (by decide) (by rw [← e, x])) (h.oo.lt k e.symm).2 (h.dis k e), ?_, h.ro.keep hk, (h.rn.keep hk).snoc hlen hk2, fun k e => ?_⟩
  · rw [hl]
    exact ownsRow_setCell_other hown (own_ne hown hc (by decide)) _
  · rw [hl]
    rcases hat with h1 | h1
    · rw [h1]; exact h.dis k e
    · rw [h1]
      intro e2
      injection e2 with e2
      have := (h.oo.lt k e.symm).2
      omega
theorem Tw.outr (h : Tw w wr b cs i o s orows Ao co vo nrows An cn vn) {Ar : Option Addr} {cr : Nat} {r : List Int} (hr : RdI wr (IB wr w.heap.size) Ar cr r) (hg : wr.grownBy w5 (Value.slice Ao orows.length co).ownBlock)
    (hown : w5.ownsRow w.heap.size 23 1 (.slice A5 (orows.length + 1) c5) (orows.length + 1) (vo ++ [.slice Ar r.length cr]))
    (hat : (Value.slice A5 (orows.length + 1) c5).ownBlock = (Value.slice Ao orows.length co).ownBlock ∨ (Value.slice A5 (orows.length + 1) c5).ownBlock = some wr.heap.size) :
    Tw w (w5.setCell ⟨b, 3, none⟩ (.slice A5 (orows.length + 1) c5)) b cs i o s (orows ++ [r]) A5 c5 (vo ++ [.slice Ar r.length cr]) nrows An cn vn := by
  have hl : (orows ++ [r]).length = orows.length + 1 := by simp
  obtain ⟨key, hbw, hx, hk, hc⟩ := h.grow (base := 0) h.oo hg 3 (.slice A5 (orows.length + 1) c5)
  have hlen : vo.length = orows.length := by have := h.oo.1; simpa using this
  have hk2 : RdI (w5.setCell ⟨b, 3, none⟩ (.slice A5 (orows.length + 1) c5)) (IB (w5.setCell ⟨b, 3, none⟩ (.slice A5 (orows.length + 1) c5)) w.heap.size) Ar cr r := (hr.keep hk).mono fun b' hb' _ => by
    rcases hb' with hb' | ⟨ds, fr, hb'⟩
    · exact .inl hb'
    · exact .inr ⟨ds, fr, (hk.block b' (.inr ⟨ds, fr, hb'⟩) (lt_of_block hb')).trans hb'⟩
  refine ⟨hbw, h.hb, hx, by rw [hl]; exact set_block hc _, ?_, own_agree h.on fun k e => key k (fun x => own_ne h.on h.mly (by decide) (by rw [← e, x])) (h.on.lt k e.symm).2 (fun e2 => h.dis k e2 e), (h.ro.keep hk).snoc hlen hk2, h.rn.keep hk, fun k e => ?_⟩
  · rw [hl]
    exact ownsRow_setCell_other hown (own_ne hown hc (by decide)) _
  · rw [hl] at e
    rcases hat with h1 | h1
    · rw [h1] at e; exact h.dis k e
    · rw [h1] at e
      injection e with e
      intro e2
      have := (h.on.lt k e2.symm).2
      omega
/-- It reads as the controller. -/
theorem Tw.reads (h : Tw w wr b cs i o s orows Ao co vo nrows An cn vn) (h1 : orows.length ≤ 140737488355328) (h2 : nrows.length ≤ 140737488355328) : RdM wr (fun _ => True) (.agg #[.int .i64 i, .int .i64 o, .int .i64 s, .slice Ao orows.length co, .slice An nrows.length cn]) ⟨i, o, s, orows, nrows⟩ := by
  refine ⟨Ao, co, An, cn, rfl, ⟨vo, Rd.own h.oo h1 (fun _ _ => trivial), fun i hi => ?_⟩, ⟨vn, Rd.own h.on h2 (fun _ _ => trivial), fun i hi => ?_⟩⟩
  · obtain ⟨A, c, e, hr⟩ := h.ro i hi
    exact ⟨A, c, e, hr.mono fun _ _ _ => trivial⟩
  · obtain ⟨A, c, e, hr⟩ := h.rn i hi
    exact ⟨A, c, e, hr.mono fun _ _ _ => trivial⟩
/-- A row that was made since. -/
theorem Tw.fresh {wo : World} {A : Option Addr} {n c : Nat} {xs : List Int} (h : w.heap.size ≤ wo.heap.size) (ho : wr.ownsRow wo.heap.size 3 1 (.slice A n c) n (xs.map (.int .i64))) (hn : n = xs.length) (hm : n ≤ 140737488355328) : RdI wr (IB wr w.heap.size) A c xs := by
  subst hn
  unfold RdI
  have hr : Rd wr (fun b => ∃ cs fr, wr.heap[b]? = some (.cells cs 3 fr)) 1 A xs.length c (xs.map (.int .i64)) := by
    have h1 := Rd.own (D := fun _ => True) ho hm (fun _ _ => trivial)
    refine ⟨h1.1, fun hp => ?_⟩
    obtain ⟨b, o, e, -, hl, hc⟩ := h1.2 hp
    refine ⟨b, o, e, ?_, hl, hc⟩
    rcases ho.2 with ⟨hv, h0⟩ | ⟨g, cap, cur, hv, _, hh, _⟩
    · subst e
      injection hv with hv
      cases hv
    · subst e
      injection hv with hv
      injection hv with hv
      injection hv with hv
      subst hv
      exact ⟨_, _, hh⟩
  exact hr.mono fun b hb _ => .inr hb
end
end Go.Proofs.Ytfabdpnjjondaaa
