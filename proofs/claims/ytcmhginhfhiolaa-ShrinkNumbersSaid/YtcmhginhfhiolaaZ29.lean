/-
  The loose controller's data while they are made row by row.
-/
import Derived.Test.YtcmhginhfhiolaaZ28
set_option linter.unusedVariables false
set_option linter.unusedSimpArgs false
namespace Go.Proofs.Ytcmhginhfhiolaa
open Go.RowKit
attribute [local go_sem] cell_alloc_old

/-- Blocks of w other than b and than rows of slices of ints lie as they lay. -/
def Quiet (b : Nat) (w w' : World) : Prop := w.heap.size ≤ w'.heap.size ∧ ∀ k, k < w.heap.size → k ≠ b → (∀ cs fr, w.heap[k]? ≠ some (.cells cs 34 fr)) → w'.heap[k]? = w.heap[k]?
theorem Quiet.of_below {b : Nat} {w w' : World} (h : Below w.heap.size w w') : Quiet b w w' := ⟨h.size, fun k h1 _ _ => h.block k h1⟩
theorem Quiet.trans {b : Nat} {w w1 w2 : World} (h : Quiet b w w1) (k : Quiet b w1 w2) : Quiet b w w2 :=
  ⟨Nat.le_trans h.1 k.1, fun j h1 h2 h3 => (k.2 j (Nat.lt_of_lt_of_le h1 h.1) h2 (fun cs fr => by rw [h.2 j h1 h2 h3]; exact h3 cs fr)).trans (h.2 j h1 h2 h3)⟩
structure LzA where
  ao : Option Addr
  co : Nat
  vo : List Value
  an : Option Addr
  cn : Nat
  vn : List Value
  ar : Option Addr
  cr : Nat
  vr : List Value
structure LzB (B : Nat) (w : World) (tb : Nat) (Q : LzA) (c2 c3 : Value) (po pn pr : List (List Int)) : Prop where
  box : w.heap[tb]? = some (.cells #[.slice Q.ao po.length Q.co, .slice Q.an pn.length Q.cn, c2, c3, .slice Q.ar pr.length Q.cr] 70 (0, 0))
  oo : w.ownsRow B 34 1 (.slice Q.ao po.length Q.co) po.length Q.vo
  on : w.ownsRow B 34 1 (.slice Q.an pn.length Q.cn) pn.length Q.vn
  orr : w.ownsRow B 34 1 (.slice Q.ar pr.length Q.cr) pr.length Q.vr
  ro : Rows w B po Q.vo
  rn : Rows w B pn Q.vn
  rr : Rows w B pr Q.vr
  d1 : ∀ k, some k = blkOf Q.ao → some k ≠ blkOf Q.an
  d2 : ∀ k, some k = blkOf Q.ao → some k ≠ blkOf Q.ar
  d3 : ∀ k, some k = blkOf Q.an → some k ≠ blkOf Q.ar
section
variable {B : Nat} {w w' w5 : World} {tb : Nat} {Q : LzA} {c2 c3 : Value} {po pn pr : List (List Int)}
theorem LzB.later (h : LzB B w tb Q c2 c3 po pn pr) (hb : Below w.heap.size w w') : LzB B w' tb Q c2 c3 po pn pr := by
  have hk : Keeps (IB w B) w w' := ⟨hb.size, fun b _ hl => hb.block b hl⟩
  exact ⟨(hb.block _ (lt_of_block h.box)).trans h.box, own_below h.oo hb, own_below h.on hb, own_below h.orr hb, h.ro.keep hk, h.rn.keep hk, h.rr.keep hk, h.d1, h.d2, h.d3⟩
theorem LzB.ne (h : LzB B w tb Q c2 c3 po pn pr) {n : Nat} {v : Value} {xs : List Value} (ho : w.ownsRow B 34 1 v n xs) : v.ownBlock ≠ some tb := own_ne ho h.box (by decide)
theorem LzB.grow {n : Nat} {A : Option Addr} {m c : Nat} {xs : List Value} (h : LzB B w tb Q c2 c3 po pn pr) (ho : w.ownsRow B 34 1 (.slice A m c) n xs) (hg : w.grownBy w5 (blkOf A)) (j : Nat) (u : Value) :
    (∀ k, k ≠ tb → k < w.heap.size → some k ≠ blkOf A → (w5.setCell ⟨tb, j, none⟩ u).heap[k]? = w.heap[k]?) ∧ Chg (fun k => B ≤ k ∨ k = tb) w (w5.setCell ⟨tb, j, none⟩ u) ∧ Keeps (IB w B) w (w5.setCell ⟨tb, j, none⟩ u) ∧ Quiet tb w (w5.setCell ⟨tb, j, none⟩ u) ∧
      w5.heap[tb]? = some (.cells #[.slice Q.ao po.length Q.co, .slice Q.an pn.length Q.cn, c2, c3, .slice Q.ar pr.length Q.cr] 70 (0, 0)) := by
  have hs := lt_of_block h.box
  have key : ∀ k, k ≠ tb → k < w.heap.size → some k ≠ blkOf A → (w5.setCell ⟨tb, j, none⟩ u).heap[k]? = w.heap[k]? := fun k h1 h2 h3 => by
    rw [Below.heap_setCell _ _ _ _ h1]
    exact hg.block k h2 h3
  have hsz : w.heap.size ≤ (w5.setCell ⟨tb, j, none⟩ u).heap.size := by simpa using hg.size
  have hrow : ∀ (k : Nat) (cs : Array Value) (t : TypeId) (fr : Nat × Nat), w.heap[k]? = some (.cells cs t fr) → t ≠ 34 → some k ≠ blkOf A := fun k cs t fr h1 h2 e => by
    obtain ⟨cs', h3⟩ := own_heap ho (by rw [own_slice]; exact e)
    exact h2 (heap_ty h1 h3)
  refine ⟨key, ((Chg.refl _ w).grown hg (fun k e _ => .inl (ho.lt k (by rw [own_slice]; exact e)).1)).set _ _ (fun _ => .inr rfl), ⟨hsz, fun k hk hl => ?_⟩, ⟨hsz, fun k h1 h2 h3 => key k h2 h1 fun e => ?_⟩, (hg.block _ hs (hrow _ _ _ _ h.box (by decide))).trans h.box⟩
  · obtain ⟨-, ds, fr, hk⟩ := hk
    refine key k (fun e => ?_) hl (hrow _ _ _ _ hk (by decide))
    subst e
    exact absurd (heap_ty hk h.box) (by decide)
  · obtain ⟨cs, h4⟩ := own_heap ho (by rw [own_slice]; exact e)
    exact h3 cs _ h4
theorem LzB.pushO {A5 : Option Addr} {c5 : Nat} {Ar : Option Addr} {cr : Nat} {r : List Int} (h : LzB B w tb Q c2 c3 po pn pr) (hr : RdI w (IB w B) Ar cr r) (hg : w.grownBy w5 (blkOf Q.ao))
    (hown : w5.ownsRow B 34 1 (.slice A5 (po.length + 1) c5) (po.length + 1) (Q.vo ++ [.slice Ar r.length cr])) (hat : blkOf A5 = blkOf Q.ao ∨ blkOf A5 = some w.heap.size) :
    LzB B (w5.setCell ⟨tb, 0, none⟩ (.slice A5 (po.length + 1) c5)) tb { Q with ao := A5, co := c5, vo := Q.vo ++ [.slice Ar r.length cr] } c2 c3 (po ++ [r]) pn pr ∧ Chg (fun k => B ≤ k ∨ k = tb) w (w5.setCell ⟨tb, 0, none⟩ (.slice A5 (po.length + 1) c5)) ∧
      Keeps (IB w B) w (w5.setCell ⟨tb, 0, none⟩ (.slice A5 (po.length + 1) c5)) ∧ Quiet tb w (w5.setCell ⟨tb, 0, none⟩ (.slice A5 (po.length + 1) c5)) := by
  have hl : (po ++ [r]).length = po.length + 1 := by simp
  obtain ⟨key, hch, hk, hq, hc⟩ := h.grow h.oo hg 0 (.slice A5 (po.length + 1) c5)
  have hlen : Q.vo.length = po.length := by have := h.oo.1; simpa using this
  have lo : ∀ k, some k = blkOf Q.ao → k < w.heap.size := fun k e => (h.oo.lt k (by rw [own_slice]; exact e.symm)).2
  have ln : ∀ k, some k = blkOf Q.an → k < w.heap.size := fun k e => (h.on.lt k (by rw [own_slice]; exact e.symm)).2
  have lr : ∀ k, some k = blkOf Q.ar → k < w.heap.size := fun k e => (h.orr.lt k (by rw [own_slice]; exact e.symm)).2
  have to_ : ∀ k, some k = blkOf Q.ao → k ≠ tb := fun k e e2 => h.ne h.oo (by rw [own_slice, ← e, e2])
  have tn : ∀ k, some k = blkOf Q.an → k ≠ tb := fun k e e2 => h.ne h.on (by rw [own_slice, ← e, e2])
  have tr : ∀ k, some k = blkOf Q.ar → k ≠ tb := fun k e e2 => h.ne h.orr (by rw [own_slice, ← e, e2])
  refine ⟨⟨by rw [hl]; exact set_block hc _, ?_, ?_, ?_, ?_, ?_, ?_, ?_, ?_, ?_⟩, hch, hk, hq⟩
  · rw [hl]; exact ownsRow_setCell_other hown (own_ne hown hc (by decide)) _
  · exact own_agree h.on fun k e => by
      rw [own_slice] at e
      exact key k (tn k e) (ln k e) (fun e2 => h.d1 k e2 e)
  · exact own_agree h.orr fun k e => by
      rw [own_slice] at e
      exact key k (tr k e) (lr k e) (fun e2 => h.d2 k e2 e)
  · exact (h.ro.keep hk).snoc hlen (IB.keep hk hr)
  · exact h.rn.keep hk
  · exact h.rr.keep hk
  · exact fun k e e2 => h.d1 k (new_blk hat (ln k e2) e) e2
  · exact fun k e e2 => h.d2 k (new_blk hat (lr k e2) e) e2
  · exact h.d3
theorem LzB.pushN {A5 : Option Addr} {c5 : Nat} {Ar : Option Addr} {cr : Nat} {r : List Int} (h : LzB B w tb Q c2 c3 po pn pr) (hr : RdI w (IB w B) Ar cr r) (hg : w.grownBy w5 (blkOf Q.an))
    (hown : w5.ownsRow B 34 1 (.slice A5 (pn.length + 1) c5) (pn.length + 1) (Q.vn ++ [.slice Ar r.length cr])) (hat : blkOf A5 = blkOf Q.an ∨ blkOf A5 = some w.heap.size) :
    LzB B (w5.setCell ⟨tb, 1, none⟩ (.slice A5 (pn.length + 1) c5)) tb { Q with an := A5, cn := c5, vn := Q.vn ++ [.slice Ar r.length cr] } c2 c3 po (pn ++ [r]) pr ∧ Chg (fun k => B ≤ k ∨ k = tb) w (w5.setCell ⟨tb, 1, none⟩ (.slice A5 (pn.length + 1) c5)) ∧
      Keeps (IB w B) w (w5.setCell ⟨tb, 1, none⟩ (.slice A5 (pn.length + 1) c5)) ∧ Quiet tb w (w5.setCell ⟨tb, 1, none⟩ (.slice A5 (pn.length + 1) c5)) := by
  have hl : (pn ++ [r]).length = pn.length + 1 := by simp
  obtain ⟨key, hch, hk, hq, hc⟩ := h.grow h.on hg 1 (.slice A5 (pn.length + 1) c5)
  have hlen : Q.vn.length = pn.length := by have := h.on.1; simpa using this
  have lo : ∀ k, some k = blkOf Q.ao → k < w.heap.size := fun k e => (h.oo.lt k (by rw [own_slice]; exact e.symm)).2
  have ln : ∀ k, some k = blkOf Q.an → k < w.heap.size := fun k e => (h.on.lt k (by rw [own_slice]; exact e.symm)).2
  have lr : ∀ k, some k = blkOf Q.ar → k < w.heap.size := fun k e => (h.orr.lt k (by rw [own_slice]; exact e.symm)).2
  have to_ : ∀ k, some k = blkOf Q.ao → k ≠ tb := fun k e e2 => h.ne h.oo (by rw [own_slice, ← e, e2])
  have tn : ∀ k, some k = blkOf Q.an → k ≠ tb := fun k e e2 => h.ne h.on (by rw [own_slice, ← e, e2])
  have tr : ∀ k, some k = blkOf Q.ar → k ≠ tb := fun k e e2 => h.ne h.orr (by rw [own_slice, ← e, e2])
  refine ⟨⟨by rw [hl]; exact set_block hc _, ?_, ?_, ?_, ?_, ?_, ?_, ?_, ?_, ?_⟩, hch, hk, hq⟩
  · exact own_agree h.oo fun k e => by
      rw [own_slice] at e
      exact key k (to_ k e) (lo k e) (h.d1 k e)
  · rw [hl]; exact ownsRow_setCell_other hown (own_ne hown hc (by decide)) _
  · exact own_agree h.orr fun k e => by
      rw [own_slice] at e
      exact key k (tr k e) (lr k e) (fun e2 => h.d3 k e2 e)
  · exact h.ro.keep hk
  · exact (h.rn.keep hk).snoc hlen (IB.keep hk hr)
  · exact h.rr.keep hk
  · exact fun k e e2 => h.d1 k e (new_blk hat (lo k e) e2)
  · exact h.d2
  · exact fun k e e2 => h.d3 k (new_blk hat (lr k e2) e) e2
theorem LzB.pushR {A5 : Option Addr} {c5 : Nat} {Ar : Option Addr} {cr : Nat} {r : List Int} (h : LzB B w tb Q c2 c3 po pn pr) (hr : RdI w (IB w B) Ar cr r) (hg : w.grownBy w5 (blkOf Q.ar))
    (hown : w5.ownsRow B 34 1 (.slice A5 (pr.length + 1) c5) (pr.length + 1) (Q.vr ++ [.slice Ar r.length cr])) (hat : blkOf A5 = blkOf Q.ar ∨ blkOf A5 = some w.heap.size) :
    LzB B (w5.setCell ⟨tb, 4, none⟩ (.slice A5 (pr.length + 1) c5)) tb { Q with ar := A5, cr := c5, vr := Q.vr ++ [.slice Ar r.length cr] } c2 c3 po pn (pr ++ [r]) ∧ Chg (fun k => B ≤ k ∨ k = tb) w (w5.setCell ⟨tb, 4, none⟩ (.slice A5 (pr.length + 1) c5)) ∧
      Keeps (IB w B) w (w5.setCell ⟨tb, 4, none⟩ (.slice A5 (pr.length + 1) c5)) ∧ Quiet tb w (w5.setCell ⟨tb, 4, none⟩ (.slice A5 (pr.length + 1) c5)) := by
  have hl : (pr ++ [r]).length = pr.length + 1 := by simp
  obtain ⟨key, hch, hk, hq, hc⟩ := h.grow h.orr hg 4 (.slice A5 (pr.length + 1) c5)
  have hlen : Q.vr.length = pr.length := by have := h.orr.1; simpa using this
  have lo : ∀ k, some k = blkOf Q.ao → k < w.heap.size := fun k e => (h.oo.lt k (by rw [own_slice]; exact e.symm)).2
  have ln : ∀ k, some k = blkOf Q.an → k < w.heap.size := fun k e => (h.on.lt k (by rw [own_slice]; exact e.symm)).2
  have lr : ∀ k, some k = blkOf Q.ar → k < w.heap.size := fun k e => (h.orr.lt k (by rw [own_slice]; exact e.symm)).2
  have to_ : ∀ k, some k = blkOf Q.ao → k ≠ tb := fun k e e2 => h.ne h.oo (by rw [own_slice, ← e, e2])
  have tn : ∀ k, some k = blkOf Q.an → k ≠ tb := fun k e e2 => h.ne h.on (by rw [own_slice, ← e, e2])
  have tr : ∀ k, some k = blkOf Q.ar → k ≠ tb := fun k e e2 => h.ne h.orr (by rw [own_slice, ← e, e2])
  refine ⟨⟨by rw [hl]; exact set_block hc _, ?_, ?_, ?_, ?_, ?_, ?_, ?_, ?_, ?_⟩, hch, hk, hq⟩
  · exact own_agree h.oo fun k e => by
      rw [own_slice] at e
      exact key k (to_ k e) (lo k e) (h.d2 k e)
  · exact own_agree h.on fun k e => by
      rw [own_slice] at e
      exact key k (tn k e) (ln k e) (h.d3 k e)
  · rw [hl]; exact ownsRow_setCell_other hown (own_ne hown hc (by decide)) _
  · exact h.ro.keep hk
  · exact h.rn.keep hk
  · exact (h.rr.keep hk).snoc hlen (IB.keep hk hr)
  · exact h.d1
  · exact fun k e e2 => h.d2 k e (new_blk hat (lo k e) e2)
  · exact fun k e e2 => h.d3 k e (new_blk hat (ln k e) e2)
end
/-- The first k rows: what is put out, where it leads, the states whose moves matter. -/
def outK (L : Mac) (k : Nat) : List (List Int) := (List.range k).map fun i => (List.range L.ins).map (mvO L i)
def nxtK (L : Mac) (k : Nat) : List (List Int) := (List.range k).map fun i => (List.range L.ins).map (mvT L i)
def erV (L : Mac) (i x : Nat) : Int := if (L.mv i x).isSome then (i : Int) else -1
def erK (L : Mac) (k : Nat) : List (List Int) := (List.range k).map fun i => (List.range L.ins).map (erV L i)
theorem outK_succ (L : Mac) (k : Nat) : outK L (k + 1) = outK L k ++ [(List.range L.ins).map (mvO L k)] := by unfold outK; rw [List.range_succ, List.map_append]; rfl
theorem nxtK_succ (L : Mac) (k : Nat) : nxtK L (k + 1) = nxtK L k ++ [(List.range L.ins).map (mvT L k)] := by unfold nxtK; rw [List.range_succ, List.map_append]; rfl
theorem erK_succ (L : Mac) (k : Nat) : erK L (k + 1) = erK L k ++ [(List.range L.ins).map (erV L k)] := by unfold erK; rw [List.range_succ, List.map_append]; rfl
theorem outK_len (L : Mac) (k : Nat) : (outK L k).length = k := by simp [outK]
theorem nxtK_len (L : Mac) (k : Nat) : (nxtK L k).length = k := by simp [nxtK]
theorem erK_len (L : Mac) (k : Nat) : (erK L k).length = k := by simp [erK]
theorem erK_row (L : Mac) {k i : Nat} (h : i < k) : (erK L k).getD i [] = (List.range L.ins).map (erV L i) := by simp [erK, List.getD, h]
theorem erK_ok (L : Mac) : RowsOk L id (erK L L.size) := by
  have hg : ∀ a x, a < L.size → x < L.ins → rowE (erK L L.size) a x = erV L a x := fun a x ha hx => by
    unfold rowE
    rw [erK_row L ha, rowf_get _ hx]
  refine ⟨erK_len _ _, fun a ha => by rw [erK_row L ha]; simp, fun a x ha hx => ?_, fun a x i ha _ hx h hi hia => ?_, fun a x j ha _ hx h => ?_⟩
  · rw [hg a x ha hx]
    unfold erV
    rcases hm : L.mv a x with _ | z
    · exact .inl rfl
    · exact .inr ⟨a, z, ha, rfl, hm⟩
  · have hia' : i = a := hia
    subst hia'
    rw [hg i x ha hx] at h
    unfold erV at h
    rcases hm : L.mv i x with _ | z
    · rfl
    · rw [hm] at h
      simp at h
  · rw [hg a x ha hx] at h
    unfold erV at h
    show j = a
    split at h <;> omega
theorem LzB.zero {B : Nat} {w : World} {tb : Nat} {c2 c3 : Value} (h : w.heap[tb]? = some (.cells #[.slice none 0 0, .slice none 0 0, c2, c3, .slice none 0 0] 70 (0, 0))) : LzB B w tb ⟨none, 0, [], none, 0, [], none, 0, []⟩ c2 c3 [] [] [] :=
  ⟨h, ⟨rfl, .inl ⟨rfl, rfl⟩⟩, ⟨rfl, .inl ⟨rfl, rfl⟩⟩, ⟨rfl, .inl ⟨rfl, rfl⟩⟩, Rows.nil _ _ _, Rows.nil _ _ _, Rows.nil _ _ _, (fun _ e => by cases e), (fun _ e => by cases e), (fun _ e => by cases e)⟩
/-- Three rows of zeros. -/
theorem lay3z (W : World) (n : Nat) (hn : n ≤ 100000) : Below W.heap.size W ((((W.alloc (zrow (.int .i64 0) n 3)).alloc (zrow (.int .i64 0) n 3)).alloc (zrow (.int .i64 0) n 3)).drew) ∧
    ∀ i, i < 3 → ((((W.alloc (zrow (.int .i64 0) n 3)).alloc (zrow (.int .i64 0) n 3)).alloc (zrow (.int .i64 0) n 3)).drew).ownsRow W.heap.size 3 1 (.slice (some ⟨W.heap.size + i, 0, none⟩) n n) n (List.replicate n (.int .i64 0)) := by
  refine ⟨lay3_below _ _ _ _, fun i hi => ?_⟩
  have h := lay3 W (zrow (.int .i64 0) n 3) (zrow (.int .i64 0) n 3) (zrow (.int .i64 0) n 3)
  have h1 : ((((W.alloc (zrow (.int .i64 0) n 3)).alloc (zrow (.int .i64 0) n 3)).alloc (zrow (.int .i64 0) n 3)).drew).heap[W.heap.size + i]? = some (zrow (.int .i64 0) n 3) := by
    rcases i with _ | _ | _ | i
    · exact h.1
    · exact h.2.1
    · exact h.2.2
    · omega
  exact ⟨by simp, .inr ⟨W.heap.size + i, n, _, rfl, by omega, h1, Nat.le_refl _, maxLen_le (by omega), by simp, by simp⟩⟩
theorem pos_no {M : Mac} {k x q : Nat} (hq : (ord M).getD k 0 = q) (h : M.mv q x = none) : (posM M).mv k x = none := by
  show (M.mv ((ord M).getD k 0) x).map _ = _
  rw [hq, h]; rfl
theorem pos_yes {M : Mac} {k x q t : Nat} {o : Int} (hq : (ord M).getD k 0 = q) (h : M.mv q x = some (o, t)) : (posM M).mv k x = some (o, (ord M).idxOf t) := by
  show (M.mv ((ord M).getD k 0) x).map _ = _
  rw [hq, h]; rfl
theorem erV_no {L : Mac} {k x : Nat} (h : L.mv k x = none) : erV L k x = -1 := by unfold erV; rw [h]; rfl
theorem erV_yes {L : Mac} {k x : Nat} {z : Int × Nat} (h : L.mv k x = some z) : erV L k x = k := by unfold erV; rw [h]; rfl
/-- One number of a row of its own is set. -/
theorem own_rowP {w : World} {B g n x : Nat} {f : Nat → Int} {v : Int} (h : w.ownsRow B 3 1 (.slice (some ⟨g, 0, none⟩) n n) n ((rowP f x n).map (.int .i64))) (hx : x < n) (hv : f x = v) : (w.setCell ⟨g, x, none⟩ (.int .i64 v)).ownsRow B 3 1 (.slice (some ⟨g, 0, none⟩) n n) n ((rowP f (x + 1) n).map (.int .i64)) := by
  have h1 := (h.stored x (.int .i64 v)).1
  rw [← List.map_set, ← hv, rowP_set f hx] at h1
  rw [← hv]
  exact h1
/-- Set twice: the second one counts. -/
theorem rowP_twice {f : Nat → Int} {n x : Nat} (u : Value) {v : Int} (hx : x < n) (hv : f x = v) : ((((rowP f x n).map (Value.int .i64)).set x u).set x (.int .i64 v)) = (rowP f (x + 1) n).map (.int .i64) := by
  rw [List.set_set, ← List.map_set, ← hv, rowP_set f hx]
theorem own_other {w : World} {B g g' n i : Nat} {xs : List Value} (h : w.ownsRow B 3 1 (.slice (some ⟨g, 0, none⟩) n n) n xs) (hne : g ≠ g') (u : Value) : (w.setCell ⟨g', i, none⟩ u).ownsRow B 3 1 (.slice (some ⟨g, 0, none⟩) n n) n xs :=
  ownsRow_setCell_other h (fun e => hne (by injection e)) u
theorem Rd.own2 {w : World} {D : Dom} {base n c size : Nat} {e : TypeId} {A : Option Addr} {xs : List Value} (h : w.ownsRow base e size (.slice A n c) n xs) (hn : n ≤ 140737488355328) (hD : ∀ k, some k = blkOf A → D k) : Rd w D size A n c xs := by
  have h1 := Rd.own (D := fun _ => True) h hn (fun _ _ => trivial)
  refine ⟨h1.1, fun hp => ?_⟩
  obtain ⟨b, o, e1, _, hl, hc⟩ := h1.2 hp
  exact ⟨b, o, e1, hD b (by rw [e1]; rfl), hl, hc⟩
theorem LzB.rdO {B : Nat} {w : World} {tb : Nat} {Q : LzA} {c2 c3 : Value} {po pn pr : List (List Int)} {D : Dom} (h : LzB B w tb Q c2 c3 po pn pr) (hl : po.length ≤ 140737488355328) (h1 : ∀ k, some k = blkOf Q.ao → D k) (h2 : ∀ k, IB w B k → D k) : RdII w D Q.ao Q.co po :=
  ⟨Q.vo, Rd.own2 h.oo hl h1, fun i hi => by
    obtain ⟨A, c, e, hr⟩ := h.ro i hi
    exact ⟨A, c, e, hr.mono fun b hb _ => h2 b hb⟩⟩
theorem LzB.rdN {B : Nat} {w : World} {tb : Nat} {Q : LzA} {c2 c3 : Value} {po pn pr : List (List Int)} {D : Dom} (h : LzB B w tb Q c2 c3 po pn pr) (hl : pn.length ≤ 140737488355328) (h1 : ∀ k, some k = blkOf Q.an → D k) (h2 : ∀ k, IB w B k → D k) : RdII w D Q.an Q.cn pn :=
  ⟨Q.vn, Rd.own2 h.on hl h1, fun i hi => by
    obtain ⟨A, c, e, hr⟩ := h.rn i hi
    exact ⟨A, c, e, hr.mono fun b hb _ => h2 b hb⟩⟩
/-- The rows of the classes at the start. -/
theorem LzB.rowsAt {B : Nat} {w : World} {tb mb rb : Nat} {Q : LzA} {c2 c3 : Value} {po pn pr : List (List Int)} (h : LzB B w tb Q c2 c3 po pn pr) (hp : 0 < pr.length) (hr : Q.ar = some ⟨rb, 0, none⟩) (hmb : mb < B) {w' : World} (hw : Chg (fun b => b = tb) w w') (htb : tb < B) : RowsAt w' mb rb pr.length Q.cr pr := by
  have ho := h.orr
  rw [hr] at ho
  rcases ho.2 with ⟨_, h0⟩ | ⟨g, cap, cur, hv, hb, hh, h1, h2, hsz, htk⟩
  · omega
  · injection hv with hA _ hc
    injection hA with hA
    injection hA with hA
    subst hA
    subst hc
    refine ⟨cur, (hw.block _ (lt_of_block hh) (by omega)).trans hh, h1, h2, by omega, rfl, fun i hi => ?_⟩
    obtain ⟨A, c, e, hr'⟩ := h.rr i hi
    refine ⟨A, c, ?_, (hr'.keep (hw.keeps fun b _ hd e => by have := hd.1; omega)).mono fun b hb' _ => ⟨by have := hb'.1; omega, fun e2 => ?_⟩⟩
    · rw [← htk, List.getElem?_take, if_pos (by omega)] at e
      simpa using e
    · obtain ⟨_, cs, fr, h3⟩ := hb'
      rw [e2] at h3
      exact absurd (heap_ty h3 hh) (by decide)
/-- The pairs, read. -/
theorem CmI.rd {B : Nat} {w : World} {n cb : Nat} {rb : Nat → Nat} {cl : List (List Bool)} {D : Dom} (h : CmI B w n cb rb cl) (hn : n ≤ 100000) (h1 : D cb) (h2 : ∀ i, i < n → D (rb i)) : RdBB w D (some ⟨cb, 0, none⟩) n cl := by
  obtain ⟨cur, h3, h4, h5⟩ := h.out
  have hl := h.sq.1
  refine ⟨cur.toList, ⟨⟨by simp; omega, by omega, by omega, by omega⟩, fun _ => ⟨cb, 0, rfl, h1, lt_of_block h3, fun j u hu => ?_⟩⟩, fun i hi => ?_⟩
  · rw [Nat.zero_add]
    exact block_cell h3 (by simpa using hu)
  · have hi' : i < n := by omega
    have hlen := h.sq.2 i hi'
    refine ⟨some ⟨rb i, 0, none⟩, n, by rw [hlen, Array.getElem?_toList]; exact h5 i hi', ⟨⟨by simp, by omega, by omega, by omega⟩, fun _ => ⟨rb i, 0, rfl, h2 i hi', lt_of_block (h.row i hi'), fun j u hu => ?_⟩⟩⟩
    rw [Nat.zero_add]
    exact block_cell (h.row i hi') (by simpa using hu)
end Go.Proofs.Ytcmhginhfhiolaa
