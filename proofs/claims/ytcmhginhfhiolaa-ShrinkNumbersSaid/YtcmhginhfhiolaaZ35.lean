/-
  Walk of Every whose rows are known to lie apart, and of shaped.
  Walk of shaped.
  Contracts in the form in which the laws take them.
-/
import Derived.Test.YtcmhginhfhiolaaZ33
import Derived.Test.YtcmhginhfhiolaaZ23
import Derived.Test.YtcmhginhfhiolaaZ34
set_option linter.unusedVariables false
set_option linter.unusedSimpArgs false
namespace Go.Proofs.Ytcmhginhfhiolaa
open Go.RowKit Go.Shelf
attribute [local go_sem] cell_alloc_old

theorem own_lower {w : World} {base base' n size : Nat} {e : TypeId} {v : Value} {xs : List Value} (h : w.ownsRow base e size v n xs) (hle : base' ≤ base) : w.ownsRow base' e size v n xs := by
  refine ⟨h.1, ?_⟩
  rcases h.2 with h0 | ⟨g, cap, cur, hv, h1, h3⟩
  · exact .inl h0
  · exact .inr ⟨g, cap, cur, hv, Nat.le_trans hle h1, h3⟩
/-- Rows of bools of the call's own, each behind the one before it. -/
structure EvJ (B : Nat) (wr : World) (A : Option Addr) (c : Nat) (rows : List (List Bool)) (vs : List Value) (rb : Nat → Nat) : Prop where
  own : wr.ownsRow B 41 1 (.slice A rows.length c) rows.length vs
  row : ∀ i, i < rows.length → ∃ cc, vs[i]? = some (.slice (some ⟨rb i, 0, none⟩) (rows.getD i []).length cc) ∧ wr.ownsRow B 4 1 (.slice (some ⟨rb i, 0, none⟩) (rows.getD i []).length cc) (rows.getD i []).length ((rows.getD i []).map .bool) ∧ rb i < wr.heap.size
  inc : ∀ i j, i < j → j < rows.length → rb i < rb j
section
variable {B : Nat} {wr w5 : World} {rows : List (List Bool)} {A A5 : Option Addr} {c c5 : Nat} {vs : List Value} {rb : Nat → Nat}
theorem EvJ.later {wr' : World} (h : EvJ B wr A c rows vs rb) (hb : Below wr.heap.size wr wr') : EvJ B wr' A c rows vs rb :=
  ⟨own_below h.own hb, fun i hi => by
    obtain ⟨cc, h1, h2, h3⟩ := h.row i hi
    exact ⟨cc, h1, own_below h2 hb, Nat.lt_of_lt_of_le h3 hb.size⟩, h.inc⟩
theorem EvJ.lower {B' : Nat} (h : EvJ B wr A c rows vs rb) (hle : B' ≤ B) : EvJ B' wr A c rows vs rb :=
  ⟨own_lower h.own hle, fun i hi => by
    obtain ⟨cc, h1, h2, h3⟩ := h.row i hi
    exact ⟨cc, h1, own_lower h2 hle, h3⟩, h.inc⟩
theorem EvJ.push (h : EvJ B wr A c rows vs rb) {g cr : Nat} {r : List Bool} (hr : wr.ownsRow B 4 1 (.slice (some ⟨g, 0, none⟩) r.length cr) r.length (r.map .bool)) (hgl : g < wr.heap.size) (hlt : ∀ i, i < rows.length → rb i < g) (hg : wr.grownBy w5 (Value.slice A rows.length c).ownBlock)
    (hown : w5.ownsRow B 41 1 (.slice A5 (rows.length + 1) c5) (rows.length + 1) (vs ++ [.slice (some ⟨g, 0, none⟩) r.length cr])) : EvJ B w5 A5 c5 (rows ++ [r]) (vs ++ [.slice (some ⟨g, 0, none⟩) r.length cr]) (fun i => if i = rows.length then g else rb i) := by
  have hl : (rows ++ [r]).length = rows.length + 1 := by simp
  have hlen : vs.length = rows.length := by have := h.own.1; simpa using this
  have keep : ∀ {v : Value} {n : Nat} {xs : List Value}, wr.ownsRow B 4 1 v n xs → w5.ownsRow B 4 1 v n xs := fun {v n xs} ho => own_agree ho fun k e => by
    obtain ⟨cs, hk⟩ := own_heap ho e
    exact hg.block k (lt_of_block hk) (fun e2 => own_ne h.own hk (by decide) e2.symm)
  refine ⟨by rw [hl]; exact hown, fun i hi => ?_, fun i j hij hj => ?_⟩
  · rw [hl] at hi
    by_cases e : i = rows.length
    · subst e
      have e1 : (rows ++ [r]).getD rows.length [] = r := by simp [List.getD, List.getElem?_append]
      rw [e1, if_pos rfl]
      refine ⟨cr, ?_, keep hr, Nat.lt_of_lt_of_le hgl hg.size⟩
      rw [List.getElem?_append, if_neg (by omega), hlen, Nat.sub_self]; rfl
    · have hi2 : i < rows.length := by omega
      obtain ⟨cc, h1, h2, h3⟩ := h.row i hi2
      have e1 : (rows ++ [r]).getD i [] = rows.getD i [] := by simp [List.getD, List.getElem?_append, hi2]
      rw [e1, if_neg e]
      refine ⟨cc, ?_, keep h2, Nat.lt_of_lt_of_le h3 hg.size⟩
      rw [List.getElem?_append, if_pos (by omega)]; exact h1
  · rw [hl] at hj
    by_cases e : j = rows.length
    · subst e
      rw [if_pos rfl, if_neg (by omega)]
      exact hlt i (by omega)
    · rw [if_neg e, if_neg (by omega)]
      exact h.inc i j hij (by omega)
end

set_option maxRecDepth 100000 in
set_option maxHeartbeats 4000000 in
theorem every_own {D : Dom} (v : Value) (m : Mly) (b : Bool) (w : World) (h : RdM w D v m) (hn1 : m.out.length ≤ 10000) (hi0 : 1 ≤ m.ins) (hi1 : m.ins ≤ 10000) :
    Calls Try.prog 28 #[v, .bool b] w fun e w' => ∃ A c vs rb, e = .returned (.slice A (everyZ m b m.out.length).length c) ∧ Below w.heap.size w w' ∧ EvJ w.heap.size w' A c (everyZ m b m.out.length) vs rb := by
  obtain ⟨i0, hti, hz0, hz1, hz2⟩ := info_parts bool_info
  obtain ⟨i1, htr, hy0, hy1, hy2⟩ := info_parts bools_info
  obtain ⟨Ao, co, An, cn, rfl, ho, hn⟩ := h
  have hlo := ho.len.1
  clear ho hn
  go_enter Try.func28, Try.ntmps28
  go_wp2_with fail
  refine wp_gen fun W1 hW1 => ?_
  have hb1 : Below w.heap.size w W1 := by rw [hW1]; go_grown
  have hx1 : W1.heap[w.heap.size]? = some (.cells #[.int .i64 m.ins, .int .i64 m.outs, .int .i64 m.start, .slice Ao m.out.length co, .slice An m.next.length cn] 24 (0, 0)) := by rw [hW1]; exact heap_alloc_new w _
  have HB1 := hid hb1
  have HX1 := hid hx1
  have hs1 : w.heap.size < W1.heap.size := lt_of_block hx1
  clear hW1 hb1 hx1
  go_loopw [5, 6] (fun s t wr => ∃ (k : Nat) (A : Option Addr) (c : Nat) (rows : List (List Bool)) (vs : List Value) (rb : Nat → Nat), k ≤ m.out.length ∧ t = .int .i64 k ∧ rows = everyZ m b k ∧ rows.length = k ∧ s = .slice A rows.length c ∧ EvJ W1.heap.size wr A c rows vs rb ∧ Below W1.heap.size W1 wr) (fun _ t _ => m.out.length - (intOf t).toNat)
  case atStart => exact ⟨0, none, 0, [], [], fun _ => 0, Nat.zero_le _, rfl, rfl, rfl, rfl, ⟨⟨rfl, .inl ⟨rfl, rfl⟩⟩, fun _ h => absurd h (Nat.not_lt_zero _), fun _ _ _ h => absurd h (Nat.not_lt_zero _)⟩, Below.refl _ _⟩
  case round =>
    obtain ⟨k, A, c, rows, vs, rb, hk, rfl, hrw, hrl, rfl, hE, hbr⟩ := hrel
    have HE := hid hE
    have HB := hid hbr
    have HRW := hid hrw
    have HRL := hid hrl
    have hx := (hbr.block _ (lt_of_block HX1.out)).trans HX1.out
    have x0 := block_cell hx (i := 0) rfl
    have x3 := block_cell hx (i := 3) rfl
    have hrl2 : rows.length ≤ 10000 := by omega
    have hszr := hbr.size
    clear hE hbr hrw hrl hx
    by_cases hlt : k < m.out.length
    · obtain ⟨wz, rfl⟩ : ∃ wz : World, wz = wr := ⟨_, rfl⟩
      go_wp2_with fail
      go_loopw [7, 8] (fun s t wr => ∃ (x : Nat) (Ar : Option Addr) (cr : Nat), x ≤ m.ins.toNat ∧ t = .int .i64 (x : Int) ∧ s = .slice Ar x cr ∧ wr.ownsRow wz.heap.size 4 1 (.slice Ar x cr) x ((List.replicate x b).map .bool) ∧ Below wz.heap.size wz wr) (fun _ t _ => m.ins.toNat - (intOf t).toNat)
      case atStart => exact ⟨0, none, 0, Nat.zero_le _, rfl, rfl, ⟨rfl, .inl ⟨rfl, rfl⟩⟩, Below.refl _ _⟩
      case round =>
        obtain ⟨x, Ar, cr, hx, rfl, rfl, hown, hbz⟩ := hrel
        have HO := hid hown
        have HBZ := hid hbz
        have hxx := ((HB.out.trans (hbz.mono hszr)).block _ (lt_of_block HX1.out)).trans HX1.out
        have x0 := block_cell hxx (i := 0) rfl
        have hsz := hbz.size
        clear hown hbz hxx
        by_cases hxl : (x : Int) < m.ins
        · have hxx : decide ((x : Int) < m.ins) = true := decide_eq_true hxl
          go_wp2_with (at_builtin; go_must (refine wpList_append_rd _ rfl (.tmp 22) (.tmp 24) 41 rfl wz.heap.size 4 i0 _ 1 1 Try.underlying41 hti hz0 hz1 hz2 rfl (by omega) (.slice Ar x cr) x _ rfl (HO.out.alloc _) _ (some ⟨wr.heap.size, 0, none⟩) 1 1 _ rfl (Rd.cell1 (cell_new wr _ _ _ _ _ rfl rfl)) (by simp [Value.oneCell']) (by omega) (maxLen_le (by omega)) (by simp; omega) ?_); intro A5 c5 w5 hown5 hg5 hat5)
          have hbz5 := Below.grown (B := wz.heap.size) (HBZ.out.trans ((show Below wr.heap.size wr _ from by go_grown).mono HBZ.out.size)) hg5 (by simp; omega) (fun k hk => (HO.out.lt k hk).1)
          have HO5 := hid hown5
          have HB5 := hid hbz5
          clear hown5 hg5 hat5 hbz5
          go_roundw
          case rel => exact ⟨x + 1, A5, c5, by omega, by go_num, rfl, by rw [List.replicate_succ', List.map_append]; exact HO5.out, HB5.out⟩
          case measure => simp [intOf]; omega
        · have hxx : decide ((x : Int) < m.ins) = false := decide_eq_false hxl
          obtain ⟨r7, hr7⟩ : ∃ r, r = List.replicate m.ins.toNat b := ⟨_, rfl⟩
          have hxe : x = m.ins.toNat := by omega
          have hr7l : r7.length = x := by rw [hr7, hxe]; simp
          have hrow : wr.ownsRow wz.heap.size 4 1 (.slice Ar x cr) x (r7.map .bool) := by rw [hr7, ← hxe]; exact HO.out
          obtain ⟨g, rfl, hgb, hgl, -⟩ := own_ptr hrow (by omega)
          have HROW := hid hrow
          have HR7 := hid hr7
          have HR7L := hid hr7l
          clear hxe hr7 hr7l hrow
          go_wp2_with (at_builtin; go_must (refine wpList_append_rd _ rfl (.tmp 26) (.tmp 28) 25 rfl W1.heap.size 41 i1 _ 1 24 Try.underlying25 htr hy0 hy1 hy2 rfl (by omega) (.slice A rows.length c) rows.length _ rfl ((own_below HE.out.own HBZ.out).alloc _) _ (some ⟨wr.heap.size, 0, none⟩) 1 1 _ rfl (Rd.cell1 (cell_new wr _ _ _ _ _ rfl rfl)) (by simp [Value.oneCell']) (by omega) (maxLen_le (by omega)) (by simp; omega) ?_); intro A5 c5 w5 hown5 hg5 hat5)
          have hE5 := ((HE.out.later HBZ.out).later (show Below wr.heap.size wr _ by go_grown)).push (g := g) (cr := cr) (r := r7) (by rw [HR7L.out]; exact (own_lower HROW.out hszr).alloc _) (by simp; omega) (fun i hi => by
            obtain ⟨cc, _, _, h3⟩ := HE.out.row i hi
            omega) hg5 (by rw [HR7L.out]; exact hown5)
          have hb5 := Below.grown (B := W1.heap.size) ((HB.out.trans (HBZ.out.mono hszr)).trans ((show Below wr.heap.size wr _ from by go_grown).mono (by omega))) hg5 (by simp; omega) (fun k hk => ((own_below HE.out.own HBZ.out).lt k hk).1)
          have HE5 := hid hE5
          have HB5 := hid hb5
          clear hown5 hg5 hat5 hE5 hb5
          go_roundw
          case rel => exact ⟨k + 1, A5, c5, rows ++ [r7], _, _, by omega, by go_num, by rw [everyZ_succ, ← HRW.out, HR7.out], by rw [List.length_append, HRL.out]; rfl, by simp, HE5.out, HB5.out⟩
          case measure => simp [intOf]; omega
    · have hke : k = m.out.length := by omega
      have HKE := hid hke
      clear hke
      go_wp2_with fail
      go_ret
      have e : everyZ m b m.out.length = rows := by rw [← HKE.out, ← HRW.out]
      rw [e]
      exact ⟨A, c, vs, rb, rfl, HB1.out.trans (HB.out.mono HB1.out.size), HE.out.lower (by omega)⟩
end Go.Proofs.Ytcmhginhfhiolaa
set_option linter.unusedVariables false
set_option linter.unusedSimpArgs false
namespace Go.Proofs.Ytcmhginhfhiolaa
open Go.RowKit Go.Shelf
attribute [local go_sem] cell_alloc_old

/-- n rows of q bools that are told by f, in blocks that differ. -/
structure ShI (B : Nat) (w : World) (g : Nat) (rb cc : Nat → Nat) (n q : Nat) (f : Nat → Nat → Bool) : Prop where
  outer : ∃ cur, w.heap[g]? = some (.cells cur 41 (0, 0)) ∧ ∀ i, i < n → cur[i]? = some (.slice (some ⟨rb i, 0, none⟩) q (cc i))
  row : ∀ i, i < n → ∃ cur, w.heap[rb i]? = some (.cells cur 4 (0, 0)) ∧ ∀ x, x < q → cur[x]? = some (.bool (f i x))
  inj : ∀ i j, i < n → j < n → i ≠ j → rb i ≠ rb j
  bnd : B ≤ g ∧ ∀ i, i < n → B ≤ rb i
  cap : ∀ i, i < n → q ≤ cc i ∧ cc i ≤ 9223372036854775807
section
variable {B : Nat} {w w' : World} {g : Nat} {rb cc : Nat → Nat} {n q : Nat} {f f' : Nat → Nat → Bool}
theorem ShI.later (h : ShI B w g rb cc n q f) (hb : Below w.heap.size w w') : ShI B w' g rb cc n q f := by
  obtain ⟨cur, h1, h2⟩ := h.outer
  exact ⟨⟨cur, (hb.block _ (lt_of_block h1)).trans h1, h2⟩, fun i hi => by
    obtain ⟨cr, k1, k2⟩ := h.row i hi
    exact ⟨cr, (hb.block _ (lt_of_block k1)).trans k1, k2⟩, h.inj, h.bnd, h.cap⟩
theorem ShI.congr (h : ShI B w g rb cc n q f) (he : ∀ i x, i < n → x < q → f i x = f' i x) : ShI B w g rb cc n q f' :=
  ⟨h.outer, fun i hi => by
    obtain ⟨cr, k1, k2⟩ := h.row i hi
    exact ⟨cr, k1, fun x hx => by rw [← he i x hi hx]; exact k2 x hx⟩, h.inj, h.bnd, h.cap⟩
theorem ShI.cells (h : ShI B w g rb cc n q f) {i : Nat} (hi : i < n) : w.cell? ⟨g, i, none⟩ = some (.slice (some ⟨rb i, 0, none⟩) q (cc i)) ∧ g < w.heap.size ∧ rb i < w.heap.size ∧ g ≠ rb i ∧ ∀ x, x < q → w.cell? ⟨rb i, x, none⟩ = some (.bool (f i x)) ∧ w.frozen? ⟨rb i, x, none⟩ = false := by
  obtain ⟨cur, h1, h2⟩ := h.outer
  obtain ⟨cr, k1, k2⟩ := h.row i hi
  refine ⟨block_cell h1 (h2 i hi), lt_of_block h1, lt_of_block k1, fun e => ?_, fun x hx => ⟨block_cell k1 (k2 x hx), block_free k1⟩⟩
  rw [← e] at k1
  exact absurd (heap_ty h1 k1) (by decide)
theorem ShI.set (h : ShI B w g rb cc n q f) {i x : Nat} (hi : i < n) (hx : x < q) (b : Bool) : ShI B (w.setCell ⟨rb i, x, none⟩ (.bool b)) g rb cc n q (fun a y => if a = i ∧ y = x then b else f a y) := by
  obtain ⟨cur, h1, h2⟩ := h.outer
  obtain ⟨-, -, -, hne, -⟩ := h.cells hi
  refine ⟨⟨cur, (Below.heap_setCell _ _ _ _ hne).trans h1, h2⟩, fun a ha => ?_, h.inj, h.bnd, h.cap⟩
  obtain ⟨cr, k1, k2⟩ := h.row a ha
  by_cases e : a = i
  · subst e
    refine ⟨_, set_block k1 _, fun y hy => ?_⟩
    have hl : x < cr.size := by
      have := k2 x hx
      rcases Nat.lt_or_ge x cr.size with h | h
      · exact h
      · rw [Array.getElem?_eq_none h] at this; cases this
    rw [Array.getElem?_setIfInBounds]
    by_cases e2 : x = y
    · subst e2
      rw [if_pos rfl, if_pos hl, if_pos ⟨rfl, rfl⟩]
    · rw [if_neg e2, if_neg (fun h => e2 h.2.symm)]
      exact k2 y hy
  · refine ⟨cr, (Below.heap_setCell _ _ _ _ (h.inj a i ha hi e)).trans k1, fun y hy => ?_⟩
    rw [if_neg (fun h => e h.1)]
    exact k2 y hy
theorem ShI.reads (h : ShI B w g rb cc n q f) {c : Nat} (hn : n ≤ 10000) (hq : q ≤ 10000) (h1 : n ≤ c) (h2 : c ≤ 9223372036854775807) : RdBB w (fun b => B ≤ b) (some ⟨g, 0, none⟩) c ((List.range n).map fun i => (List.range q).map (f i)) := by
  obtain ⟨cur, k1, k2⟩ := h.outer
  have hl : ((List.range n).map fun i => (List.range q).map (f i)).length = n := by simp
  refine ⟨(List.range n).map fun i => .slice (some ⟨rb i, 0, none⟩) q (cc i), ⟨⟨by simp, by rw [hl]; omega, by rw [hl]; omega, h2⟩, fun _ => ⟨g, 0, rfl, h.bnd.1, lt_of_block k1, fun j u hu => ?_⟩⟩, fun i hi => ?_⟩
  · rw [List.getElem?_map] at hu
    by_cases hj : j < n
    · rw [List.getElem?_range hj] at hu
      rw [Nat.zero_add]
      rw [← Option.some.inj hu]
      exact block_cell k1 (k2 j hj)
    · rw [List.getElem?_eq_none (by simp; omega)] at hu
      cases hu
  · rw [hl] at hi
    have e : ((List.range n).map fun i => (List.range q).map (f i)).getD i [] = (List.range q).map (f i) := by simp [List.getD, hi]
    rw [e]
    have hlq : ((List.range q).map (f i)).length = q := by simp
    obtain ⟨cr, c1, c2⟩ := h.row i hi
    refine ⟨some ⟨rb i, 0, none⟩, cc i, by rw [List.getElem?_map, List.getElem?_range hi, hlq]; rfl, ⟨⟨by simp, by rw [hlq]; omega, by rw [hlq]; exact (h.cap i hi).1, (h.cap i hi).2⟩, fun _ => ⟨rb i, 0, rfl, h.bnd.2 i hi, lt_of_block c1, fun j u hu => ?_⟩⟩⟩
    rw [List.getElem?_map, List.getElem?_map] at hu
    by_cases hj : j < q
    · rw [List.getElem?_range hj] at hu
      rw [Nat.zero_add]
      rw [← Option.some.inj hu]
      exact block_cell c1 (c2 j hj)
    · rw [List.getElem?_eq_none (by simp; omega)] at hu
      cases hu
end
theorem own_open {w : World} {base n c : Nat} {e : TypeId} {A : Option Addr} {xs : List Value} (h : w.ownsRow base e 1 (.slice A n c) n xs) (hn : 0 < n) :
    ∃ g cur, A = some ⟨g, 0, none⟩ ∧ base ≤ g ∧ w.heap[g]? = some (.cells cur e (0, 0)) ∧ (∀ (i : Nat) u, xs[i]? = some u → cur[i]? = some u) ∧ n ≤ c ∧ c ≤ 9223372036854775807 := by
  rcases h.2 with ⟨hv, h0⟩ | ⟨g, cap, cur, hv, hb, hh, h1, h2, hsz, htk⟩
  · omega
  · injection hv with hA _ hc
    subst hc
    refine ⟨g, cur, hA, hb, hh, fun i u hu => ?_, h1, h2⟩
    rw [← htk, List.getElem?_take] at hu
    split at hu
    · simpa using hu
    · cases hu
theorem ShI.of {B : Nat} {wr : World} {A : Option Addr} {c n q : Nat} {b : Bool} {rows : List (List Bool)} {vs : List Value} {rb : Nat → Nat} (h : EvJ B wr A c rows vs rb) (hr : rows = (List.range n).map fun _ => List.replicate q b) (hn : 0 < n) (hq : 0 < q) : ∃ g cc, A = some ⟨g, 0, none⟩ ∧ n ≤ c ∧ c ≤ 9223372036854775807 ∧ ShI B wr g rb cc n q (fun _ _ => b) := by
  have hl : rows.length = n := by rw [hr]; simp
  have hrow : ∀ i, i < n → rows.getD i [] = List.replicate q b := fun i hi => by rw [hr]; simp [List.getD, hi]
  have ho := h.own
  rw [hl] at ho
  obtain ⟨g, cur, hA, hb, hh, hc, h1, h2⟩ := own_open ho hn
  have each : ∀ i, i < n → ∃ cc, vs[i]? = some (.slice (some ⟨rb i, 0, none⟩) q cc) ∧ wr.ownsRow B 4 1 (.slice (some ⟨rb i, 0, none⟩) q cc) q ((List.replicate q b).map .bool) := fun i hi => by
    obtain ⟨cc, e1, e2, _⟩ := h.row i (by omega)
    rw [hrow i hi, List.length_replicate] at e1 e2
    exact ⟨cc, e1, e2⟩
  obtain ⟨ccf, hcc⟩ : ∃ ccf : Nat → Nat, ∀ i, i < n → vs[i]? = some (.slice (some ⟨rb i, 0, none⟩) q (ccf i)) ∧ wr.ownsRow B 4 1 (.slice (some ⟨rb i, 0, none⟩) q (ccf i)) q ((List.replicate q b).map .bool) := by
    classical
    refine ⟨fun i => if hi : i < n then Classical.choose (each i hi) else 0, fun i hi => ?_⟩
    simp only [hi, dite_true]
    exact Classical.choose_spec (each i hi)
  refine ⟨g, ccf, hA, h1, h2, ⟨cur, hh, fun i hi => hc i _ (hcc i hi).1⟩, fun i hi => ?_, fun i j hi hj hne => ?_, ⟨hb, fun i hi => ?_⟩, fun i hi => ?_⟩
  · obtain ⟨g', cr, e1, e2, e3, e4, _⟩ := own_open (hcc i hi).2 hq
    injection e1 with e1
    injection e1 with e1
    subst e1
    exact ⟨cr, e3, fun x hx => e4 x _ (by simp [hx])⟩
  · rcases Nat.lt_or_gt_of_ne hne with k | k
    · have := h.inc i j k (by omega); omega
    · have := h.inc j i k (by omega); omega
  · obtain ⟨g', cr, e1, e2, _⟩ := own_open (hcc i hi).2 hq
    injection e1 with e1
    injection e1 with e1
    omega
  · obtain ⟨g', cr, _, _, _, _, e5, e6⟩ := own_open (hcc i hi).2 hq
    exact ⟨e5, e6⟩

/-- What matters, by the bits. -/
def shB (bits : List Int) (q i x : Nat) : Bool := if 0 < bits.length then decide (0 < bits.getD ((i * q + x) % bits.length) 0 % 3) else true
def shF (bits : List Int) (q a y i x : Nat) : Bool := if i < a ∨ (i = a ∧ x < y) then shB bits q i x else true
def shapedZ (m : Mly) (bits : List Int) : List (List Bool) := (List.range m.out.length).map fun i => (List.range m.ins.toNat).map (shB bits m.ins.toNat i)
theorem shF_zero (bits : List Int) (q i x : Nat) : true = shF bits q 0 0 i x := by
  unfold shF; rw [if_neg (by omega)]
theorem shF_set (bits : List Int) (q a y i x : Nat) : (if i = a ∧ x = y then shB bits q a y else shF bits q a y i x) = shF bits q a (y + 1) i x := by
  unfold shF
  by_cases e : i = a ∧ x = y
  · obtain ⟨rfl, rfl⟩ := e
    rw [if_pos ⟨rfl, rfl⟩, if_pos (by omega)]
  · rw [if_neg e]
    by_cases h : i < a ∨ (i = a ∧ x < y)
    · rw [if_pos h, if_pos (by omega)]
    · rw [if_neg h, if_neg (by omega)]
theorem shF_none (bits : List Int) (q a y i x : Nat) (h : bits.length = 0) : shF bits q a y i x = shF bits q a (y + 1) i x := by
  have : ∀ i x, shB bits q i x = true := fun i x => by unfold shB; rw [if_neg (by omega)]
  unfold shF
  simp [this]
theorem shF_next (bits : List Int) (q a i x : Nat) (hx : x < q) : shF bits q a q i x = shF bits q (a + 1) 0 i x := by
  unfold shF
  by_cases h : i < a + 1
  · rw [if_pos (by omega), if_pos (by omega)]
  · rw [if_neg (by omega), if_neg (by omega)]
theorem shF_all (bits : List Int) (q n i x : Nat) (hi : i < n) : shF bits q n 0 i x = shB bits q i x := by
  unfold shF; rw [if_pos (by omega)]

set_option maxRecDepth 100000 in
set_option maxHeartbeats 4000000 in
theorem shaped_any {D E : Dom} (v : Value) (m : Mly) (A : Option Addr) (c : Nat) (bits : List Int) (w : World) (h : RdM w D v m) (hc : RdY w E A c bits) (hn1 : m.out.length ≤ 10000) (hn0 : 1 ≤ m.out.length) (hi0 : 1 ≤ m.ins) (hi1 : m.ins ≤ 10000) :
    Calls Try.prog 26 #[v, .slice A bits.length c] w fun e w' => ∃ A' c', e = .returned (.slice A' (shapedZ m bits).length c') ∧ Below w.heap.size w w' ∧ RdBB w' (fun k => w.heap.size ≤ k) A' c' (shapedZ m bits) := by
  have HC := hid hc.old
  have HV := hid h.old
  have hcl := hc.len.1
  obtain ⟨Ao, co, An, cn, rfl, ho, hn⟩ := h
  clear ho hn hc
  go_enter Try.func26, Try.ntmps26
  go_upto_region 1 with (fail)
  refine wp_gen fun W hW => ?_
  have HM := hid (show HasM W w.heap.size _ m by rw [hW]; exact HasM.new HV.out)
  have HBW := hid (show Below w.heap.size w W by rw [hW]; go_grown)
  clear hW
  obtain ⟨x0, x1, x2, x3, x4, xl⟩ := HM.out.cells
  go_wp2_with fail
  refine (every_own _ m true W HM.out.rd hn1 hi0 hi1).mono ?_
  rintro e W1 ⟨A1, c1, vs, rb, rfl, hb, hE⟩
  obtain ⟨q, hq⟩ : ∃ q, q = m.ins.toNat := ⟨_, rfl⟩
  obtain ⟨n, hn⟩ : ∃ n, n = m.out.length := ⟨_, rfl⟩
  obtain ⟨g, cc, rfl, hc1, hc2, hS⟩ := ShI.of (n := n) (q := q) hE (by rw [hn, hq]; rfl) (by omega) (by omega)
  have hlen : (everyZ m true m.out.length).length = n := by rw [everyZ_len, hn]
  have HS := hid (hS.congr fun i x _ _ => shF_zero bits q i x)
  have HBW := hid (HBW.out.trans (hb.mono HBW.out.size))
  have hWs := HBW.out.size
  have hw0 : w.heap.size < W.heap.size := xl
  have HQ := hid hq
  have HN := hid hn
  have hqb : q ≤ 10000 := by omega
  have hnb : n ≤ 10000 := by omega
  rw [hlen]
  clear hb hE hS x0 x1 x2 x3 x4 xl hq hn
  go_wp2_with fail
  go_loopw [6, 7] (fun s t wr => ∃ a : Nat, a ≤ n ∧ t = .int .i64 (a : Int) ∧ s = .int .i64 ((a * q : Nat) : Int) ∧ ShI W.heap.size wr g rb cc n q (shF bits q a 0) ∧ Below W.heap.size W1 wr) (fun _ t _ => n - (intOf t).toNat)
  case atStart => exact ⟨0, Nat.zero_le _, rfl, by simp, HS.out, Below.refl _ _⟩
  case round =>
    obtain ⟨a, ha, rfl, rfl, hS, hbr⟩ := hrel
    have HS := hid hS
    have HBR := hid hbr
    clear hS hbr
    by_cases hlt : a < n
    · obtain ⟨wz, hwz⟩ : ∃ wz : World, wz = wr := ⟨_, rfl⟩
      go_wp2_with fail
      go_loopw [6, 8] (fun s t wr => ∃ y : Nat, y ≤ q ∧ t = .int .i64 (y : Int) ∧ s = .int .i64 ((a * q + y : Nat) : Int) ∧ ShI W.heap.size wr g rb cc n q (shF bits q a y) ∧ Below W.heap.size W1 wr) (fun _ t _ => q - (intOf t).toNat)
      case atStart => exact ⟨0, Nat.zero_le _, rfl, rfl, HS.out, HBR.out⟩
      case round =>
        obtain ⟨y, hy, rfl, rfl, hS, hbr⟩ := hrel
        have HS := hid hS
        have HBR := hid hbr
        obtain ⟨g0, gl, rl, hne, hcell⟩ := hS.cells hlt
        have hai : (a : Int) < n := by omega
        clear hS hbr
        by_cases hyq : y < q
        · have hcy := hcell y hyq
          have hyi : (y : Int) < q := by omega
          clear hcell
          have hkb : a * q + y ≤ 200000000 := by
            have : a * q ≤ 10000 * 10000 := Nat.mul_le_mul (by have := HN.out; omega) (by have := HQ.out; omega)
            have := HQ.out
            omega
          obtain ⟨kk, hkk⟩ : ∃ kk, kk = a * q + y := ⟨_, rfl⟩
          rw [← hkk] at hkb
          have HKK := hid hkk
          rw [← HKK.out]
          by_cases hb0 : bits.length = 0
          · have hd : decide ((0 : Int) < (bits.length : Int)) = false := decide_eq_false (by omega)
            clear hkk
            go_wp2_with fail
            go_roundw
            case rel => exact ⟨y + 1, by omega, by go_num, by rw [← Nat.add_assoc, ← HKK.out]; go_num, HS.out.congr fun i x _ _ => shF_none bits q a y i x hb0, HBR.out⟩
            case measure => simp [intOf]; omega
          · have hd : decide ((0 : Int) < (bits.length : Int)) = true := decide_eq_true (by omega)
            have hkl : kk % bits.length < bits.length := Nat.mod_lt _ (by omega)
            obtain ⟨j, hj⟩ : ∃ j, j = kk % bits.length := ⟨_, rfl⟩
            rw [← hj] at hkl
            have hkm : Int.tmod (kk : Int) (bits.length : Int) = (j : Int) := by rw [hj]; rfl
            have hbw : Below w.heap.size w wr := HBW.out.trans (HBR.out.mono (Nat.le_of_lt hw0))
            obtain ⟨b, o, z, rfl, _, hbl, HZ, hz0, hz1, hc0⟩ := (HC.out.keep (Keeps.of_below hbw fun _ h => h)).get hkl
            have hji : (j : Int) < bits.length := by omega
            have hz3 : z.tmod 3 = z % 3 := Int.tmod_eq_emod_of_nonneg hz0
            obtain ⟨r, hr⟩ : ∃ r, r = z % 3 := ⟨_, rfl⟩
            rw [← hr] at hz3
            have hr0 : 0 ≤ r ∧ r < 3 := by omega
            have HJ := hid hj
            have HR := hid hr
            have hne0 : ¬ ((bits.length : Int) = 0) := by omega
            have hwj : IntKind.i64.wrap (j : Int) = (j : Int) := IntWalk.i64_in _ (by omega)
            have hwr3 : IntKind.u8.wrap r = r := IntWalk.u8_in _ (by omega)
            have hq1 := hcy.1
            have hq2 := hcy.2
            have HCY := hid hcy
            clear hj hr hkk hbw hcy
            go_upto_region 10 with (fail)
            go_still_tail 15, (by kernel_rfl)
            simp only [World.drew_eq]
            have hq1 : wr.drew.cell? ⟨rb a, y, none⟩ = some (.bool (shF bits q a y a y)) := hq1
            have hq2 : wr.drew.frozen? ⟨rb a, y, none⟩ = false := hq2
            have HSD := hid (HS.out.later ((Below.refl _ _).drew : Below wr.heap.size wr wr.drew))
            have HBD := hid (HBR.out.drew)
            obtain ⟨wd, hwd⟩ : ∃ wd, wd = wr.drew := ⟨_, rfl⟩
            have hsd : wd.heap.size = wr.heap.size := by rw [hwd]; rfl
            rw [← hwd] at HSD HBD hq1 hq2 ⊢
            clear hwd
            go_wp2_with fail
            go_roundw
            case rel =>
              have hs := HSD.out.set hlt hyq (decide (0 < r))
              refine ⟨y + 1, by omega, by go_num, by rw [← Nat.add_assoc, ← HKK.out]; go_num, hs.congr fun i x _ _ => ?_, ?_⟩
              · rw [← shF_set]
                have : shB bits q a y = decide (0 < r) := by
                  unfold shB
                  rw [if_pos (by omega), ← HKK.out, ← HJ.out, HZ.out, HR.out]
                rw [this]
              · exact HBD.out.setCell (p := ⟨rb a, y, none⟩) (HS.out.bnd.2 a hlt) _
            case measure => simp [intOf]; omega
        · obtain rfl : y = q := by omega
          go_wp2_with fail
          go_roundw
          case rel => exact ⟨a + 1, by omega, by go_num, by rw [Nat.add_mul, Nat.one_mul], HS.out.congr fun i x _ hx => shF_next bits y a i x hx, HBR.out⟩
          case measure => simp [intOf]; omega
    · obtain rfl : a = n := by omega
      go_wp2_with fail
      go_ret
      have hl : (shapedZ m bits).length = a := by unfold shapedZ; rw [← HN.out]; simp
      rw [hl]
      refine ⟨_, _, rfl, HBW.out.trans (HBR.out.mono (Nat.le_of_lt hw0)), ?_⟩
      have hr := (HS.out.congr fun i x hi _ => shF_all bits q a i x hi).reads (c := c1) (by have := HN.out; omega) (by have := HQ.out; omega) hc1 hc2
      unfold shapedZ
      rw [← HN.out, ← HQ.out]
      exact hr.mono fun b hb _ => by have hb : W.heap.size ≤ b := hb; show w.heap.size ≤ b; omega
end Go.Proofs.Ytcmhginhfhiolaa
set_option linter.unusedVariables false
set_option linter.unusedSimpArgs false
namespace Go.Proofs.Ytcmhginhfhiolaa
open Go.RowKit
attribute [local go_sem] cell_alloc_old

section
variable {D E F : Dom} {w : World} {v u : Value} {m a b : Mly}
theorem least_get (hm : mealyB m = true) (h : RdM w D v m) : Calls Try.prog 18 #[v] w fun e w' => ∃ (X : Mly) (Ao : Option Addr) (co : Nat) (An : Option Addr) (cn : Nat), e = .returned (.agg #[.int .i64 X.ins, .int .i64 X.outs, .int .i64 X.start, .slice Ao X.out.length co, .slice An X.next.length cn]) ∧ Below w.heap.size w w' ∧ RdM w' (fun b => w.heap.size ≤ b) (.agg #[.int .i64 X.ins, .int .i64 X.outs, .int .i64 X.start, .slice Ao X.out.length co, .slice An X.next.length cn]) X ∧ LeastIs m X := by
  refine (least_any v m w h).mono ?_
  rintro e w' ⟨u, X, rfl, hb, hr, hl⟩
  have hr2 := hr
  obtain ⟨Ao, co, An, cn, rfl, -, -⟩ := hr2
  exact ⟨X, Ao, co, An, cn, rfl, hb, hr, hl.1 hm⟩
theorem loose_get {A : Option Addr} {ca : Nat} {care : List (List Bool)} (hm : mealyB m = true) (hcs : caresB m care = true) (h : RdM w D v m) (hc : RdBB w E A ca care) : Calls Try.prog 20 #[v, .slice A care.length ca] w fun e w' => ∃ (X : Mly) (Ao : Option Addr) (co : Nat) (An : Option Addr) (cn : Nat), e = .returned (.agg #[.int .i64 X.ins, .int .i64 X.outs, .int .i64 X.start, .slice Ao X.out.length co, .slice An X.next.length cn]) ∧ Below w.heap.size w w' ∧ RdM w' (fun b => w.heap.size ≤ b) (.agg #[.int .i64 X.ins, .int .i64 X.outs, .int .i64 X.start, .slice Ao X.out.length co, .slice An X.next.length cn]) X ∧ IsQuo (posM (careM m care)) (final (posM (careM m care))) X := by
  refine (loose_any v m A ca care w h hc).mono ?_
  rintro e w' ⟨u, X, rfl, hb, hr, hl⟩
  have hr2 := hr
  obtain ⟨Ao, co, An, cn, rfl, -, -⟩ := hr2
  exact ⟨X, Ao, co, An, cn, rfl, hb, hr, hl.1 (by rw [hm, hcs]; rfl)⟩
theorem trim_get (hm : mealyB m = true) (h : RdM w D v m) : Calls Try.prog 14 #[v] w fun e w' => ∃ (Ao : Option Addr) (co : Nat) (An : Option Addr) (cn : Nat), e = .returned (.agg #[.int .i64 (build (wholeM m)).ins, .int .i64 (build (wholeM m)).outs, .int .i64 (build (wholeM m)).start, .slice Ao (build (wholeM m)).out.length co, .slice An (build (wholeM m)).next.length cn]) ∧ Below w.heap.size w w' ∧ RdM w' (fun b => w.heap.size ≤ b) (.agg #[.int .i64 (build (wholeM m)).ins, .int .i64 (build (wholeM m)).outs, .int .i64 (build (wholeM m)).start, .slice Ao (build (wholeM m)).out.length co, .slice An (build (wholeM m)).next.length cn]) (build (wholeM m)) := by
  refine (trim_any v m w h).mono ?_
  rintro e w' ⟨u, rfl, hb, hr⟩
  unfold trimZ at hr
  rw [if_pos hm] at hr
  have hr2 := hr
  obtain ⟨Ao, co, An, cn, rfl, -, -⟩ := hr2
  exact ⟨Ao, co, An, cn, rfl, hb, hr⟩
theorem same_get {r : Bool} (hr : r = true ↔ SameP a b) (h : RdM w D v a) (k : RdM w E u b) : Calls Try.prog 16 #[v, u] w fun e w' => e = .returned (.bool r) ∧ Below w.heap.size w w' := by
  refine (same_any v u a b w h k).mono ?_
  rintro e w' ⟨⟨s, rfl, hs⟩, hb⟩
  have : s = r := Bool.eq_iff_iff.2 (hs.trans hr.symm)
  rw [this]
  exact ⟨rfl, hb⟩
theorem rsame_get {r : Bool} (hr : r = true ↔ SameP a b) (h : RdM w D v a) (k : RdM w E u b) : Calls Try.prog 17 #[v, u] w fun e w' => e = .returned (.bool r) ∧ Below w.heap.size w w' := by
  refine (rsame_any v u a b w h k).mono ?_
  rintro e w' ⟨⟨s, rfl, hs⟩, hb⟩
  have : s = r := Bool.eq_iff_iff.2 (hs.trans hr.symm)
  rw [this]
  exact ⟨rfl, hb⟩
theorem equal_get {r : Bool} (hr : r = true ↔ a = b) (h : RdM w D v a) (k : RdM w E u b) : Calls Try.prog 13 #[v, u] w fun e w' => e = .returned (.bool r) ∧ Below w.heap.size w w' := by
  have := equal_any v u a b w h k
  have e : eqMB a b = r := Bool.eq_iff_iff.2 ((eqMB_iff a b).trans hr.symm)
  rw [e] at this
  exact this
end
/-- What is small has at most 14 states and 16 inputs. -/
theorem small_sizes {m : Mly} (h : smallB m = true) : m.out.length ≤ 14 ∧ m.ins ≤ 16 := by
  unfold smallB at h
  simp only [Bool.and_eq_true, decide_eq_true_eq] at h
  exact ⟨h.1.1.1.1, h.1.1.2⟩
theorem bool_iff (P : Prop) : ∃ r : Bool, r = true ↔ P := by
  classical
  exact ⟨decide P, decide_eq_true_iff⟩
theorem every_cares {m : Mly} (hS : Sized m) (b : Bool) : caresB m (everyZ m b m.out.length) = true := by
  unfold caresB
  rw [Bool.and_eq_true, decide_eq_true_eq]
  refine ⟨everyZ_len _ _ _, allN_true.2 fun i hi => ?_⟩
  rw [everyZ_len] at hi
  rw [everyZ_get m b hi, List.length_replicate, decide_eq_true_eq]
  have := hS.i1
  omega

theorem shaped_len (m : Mly) (bits : List Int) : (shapedZ m bits).length = m.out.length := by simp [shapedZ]
theorem shaped_cares {m : Mly} (hS : Sized m) (bits : List Int) : caresB m (shapedZ m bits) = true := by
  unfold caresB
  rw [Bool.and_eq_true, decide_eq_true_eq]
  refine ⟨shaped_len _ _, allN_true.2 fun i hi => ?_⟩
  rw [shaped_len] at hi
  have e : (shapedZ m bits).getD i [] = (List.range m.ins.toNat).map (shB bits m.ins.toNat i) := by simp [shapedZ, List.getD, hi]
  rw [e, List.length_map, List.length_range, decide_eq_true_eq]
  have := hS.i1
  omega

theorem run_get {D E : Dom} {w : World} {v : Value} {m : Mly} {A : Option Addr} {ca : Nat} {l : List Int} (hm : mealyB m = true) (h : RdM w D v m) (hl : RdI w E A ca l) (hb : belowB m.ins l = true) (hmil : l.length ≤ 1000000) :
    Calls Try.prog 24 #[v, .int .i64 m.start, .slice A l.length ca] w fun e w' => ∃ (A' : Option Addr) (c' : Nat) (xs : List Int) (z : Int), e = .returned (.tuple #[.slice A' xs.length c', .int .i64 z]) ∧ Below w.heap.size w w' ∧ RdI w' (fun b => w.heap.size ≤ b) A' c' xs ∧ xs = mOuts m m.start l l.length := by
  have hS := sized_of hm
  refine (mrun_any v m m.start A ca l w h hl hm hS.s0 hS.s1 hb hmil).mono ?_
  rintro e w' ⟨A', c', rfl, h1, h2⟩
  exact ⟨A', c', _, _, by rw [mOuts_len], h1, h2, rfl⟩
theorem inputs_below {m : Mly} (hi : 1 ≤ m.ins) (ch : List Int) : belowB m.ins (inputsZ m ch) = true := allN_true.2 fun j hj => by
  have hj' : j < min ch.length 40 := by unfold inputsZ at hj; rwa [inpZ_len] at hj
  have e : (inputsZ m ch).getD j 0 = ch.getD j 0 % m.ins := by simp [inputsZ, inpZ, List.getD, hj']
  rw [e, Bool.and_eq_true, decide_eq_true_eq, decide_eq_true_eq]
  exact ⟨Int.emod_nonneg _ (by omega), Int.emod_lt_of_pos _ (by omega)⟩
theorem inputs_short (m : Mly) (ch : List Int) : (inputsZ m ch).length ≤ 40 := by unfold inputsZ; rw [inpZ_len]; omega
theorem below_lt {n : Int} {l : List Int} (h : belowB n l = true) : ∀ k, k < l.length → (l.getD k 0).toNat < n.toNat := fun k hk => by
  have := allN_true.1 h k hk
  rw [Bool.and_eq_true, decide_eq_true_eq, decide_eq_true_eq] at this
  omega

end Go.Proofs.Ytcmhginhfhiolaa
