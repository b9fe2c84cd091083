/-
  Walks of the reference: Every, Reached.
-/
import Derived.Test.YtcmhginhfhiolaaZ03
set_option linter.unusedVariables false
set_option linter.unusedSimpArgs false
namespace Go.Proofs.Ytcmhginhfhiolaa
open Go.RowKit Go.Shelf
attribute [local go_sem] cell_alloc_old

/-- RowsB of bools from block B on. -/
def IBb (wr : World) (B : Nat) : Dom := fun b => B ≤ b ∧ ∃ cs fr, wr.heap[b]? = some (.cells cs 4 fr)
/-- The values vs are the rows. -/
def RowsB (wr : World) (B : Nat) (rows : List (List Bool)) (vs : List Value) : Prop :=
  ∀ i, i < rows.length → ∃ A c, vs[i]? = some (.slice A (rows.getD i []).length c) ∧ RdB wr (IBb wr B) A c (rows.getD i [])
theorem RowsB.nil (wr : World) (B : Nat) (vs : List Value) : RowsB wr B [] vs := fun _ h => absurd h (Nat.not_lt_zero _)
section
variable {wr wr' : World} {B : Nat} {rows : List (List Bool)} {vs : List Value}
theorem RowsB.keep (h : RowsB wr B rows vs) (hk : Keeps (IBb wr B) wr wr') : RowsB wr' B rows vs := fun i hi => by
  obtain ⟨A, c, h1, h2⟩ := h i hi
  refine ⟨A, c, h1, (h2.keep hk).mono fun b hb _ => ?_⟩
  obtain ⟨hB, cs, fr, hb⟩ := hb
  exact ⟨hB, cs, fr, (hk.block b ⟨hB, cs, fr, hb⟩ (lt_of_block hb)).trans hb⟩
theorem RowsB.snoc (h : RowsB wr B rows vs) (hl : vs.length = rows.length) {A : Option Addr} {c : Nat} {r : List Bool} (hr : RdB wr (IBb wr B) A c r) : RowsB wr B (rows ++ [r]) (vs ++ [.slice A r.length c]) := fun i hi => by
  rw [List.length_append, List.length_singleton] at hi
  by_cases e : i < rows.length
  · obtain ⟨A', c', h1, h2⟩ := h i e
    have e1 : (rows ++ [r]).getD i [] = rows.getD i [] := by simp [List.getD, List.getElem?_append, e]
    rw [e1]
    refine ⟨A', c', ?_, h2⟩
    rw [List.getElem?_append, if_pos (by omega)]; exact h1
  · obtain rfl : i = rows.length := by omega
    have e1 : (rows ++ [r]).getD rows.length [] = r := by simp [List.getD, List.getElem?_append]
    rw [e1]
    refine ⟨A, c, ?_, hr⟩
    rw [List.getElem?_append, if_neg (by omega), hl, Nat.sub_self]; rfl
end

section
variable {B : Nat} {wr w5 : World} {rows : List (List Bool)} {A A5 : Option Addr} {c c5 : Nat} {vs : List Value}
theorem IBb.keep {wr' : World} (hk : Keeps (IBb wr B) wr wr') {Ar : Option Addr} {cr : Nat} {r : List Bool} (hr : RdB wr (IBb wr B) Ar cr r) : RdB wr' (IBb wr' B) Ar cr r := (hr.keep hk).mono fun b' hb' _ => by
  obtain ⟨h1, ds, fr, hb'⟩ := hb'
  exact ⟨h1, ds, fr, (hk.block b' ⟨h1, ds, fr, hb'⟩ (lt_of_block hb')).trans hb'⟩
/-- A row of bools of the call's own. -/
theorem IBb.own {B' : Nat} {A : Option Addr} {n c : Nat} {xs : List Bool} (h : B ≤ B') (ho : wr.ownsRow B' 4 1 (.slice A n c) n (xs.map (.bool))) (hn : n = xs.length) (hm : n ≤ 140737488355328) : RdB wr (IBb wr B) A c xs := by
  subst hn
  have h1 := Rd.own (D := fun b => B' ≤ b) ho hm (fun _ h => h)
  refine ⟨h1.1, fun hp => ?_⟩
  obtain ⟨b, o, e, hb, hl, hc⟩ := h1.2 hp
  refine ⟨b, o, e, ⟨Nat.le_trans h hb, ?_⟩, hl, hc⟩
  rcases ho.2 with ⟨hv, h0⟩ | ⟨g, cap, cur, hv, _, hh, _⟩
  · subst e
    injection hv with hv
    cases hv
  · subst e
    injection hv with hv
    injection hv with hv
    injection hv with hv
    subst hv
    exact ⟨_, _, hh⟩
/-- Rows of bools of the call's own. -/
structure EvI (B : Nat) (wr : World) (A : Option Addr) (c : Nat) (rows : List (List Bool)) (vs : List Value) : Prop where
  own : wr.ownsRow B 41 1 (.slice A rows.length c) rows.length vs
  rd : RowsB wr B rows vs
theorem EvI.later {wr' : World} (h : EvI B wr A c rows vs) (hb : Below wr.heap.size wr wr') : EvI B wr' A c rows vs := ⟨own_below h.own hb, h.rd.keep ⟨hb.size, fun b _ hl => hb.block b hl⟩⟩
theorem EvI.push (h : EvI B wr A c rows vs) {Ar : Option Addr} {cr : Nat} {r : List Bool} (hr : RdB wr (IBb wr B) Ar cr r) (hg : wr.grownBy w5 (Value.slice A rows.length c).ownBlock)
    (hown : w5.ownsRow B 41 1 (.slice A5 (rows.length + 1) c5) (rows.length + 1) (vs ++ [.slice Ar r.length cr])) : EvI B w5 A5 c5 (rows ++ [r]) (vs ++ [.slice Ar r.length cr]) := by
  have hl : (rows ++ [r]).length = rows.length + 1 := by simp
  have hlen : vs.length = rows.length := by have := h.own.1; simpa using this
  have hk : Keeps (IBb wr B) wr w5 := ⟨hg.size, fun k hk hl => by
    obtain ⟨-, ds, fr, hk⟩ := hk
    exact hg.block k hl (fun e => own_ne h.own hk (by decide) e.symm)⟩
  exact ⟨by rw [hl]; exact hown, (h.rd.keep hk).snoc hlen (IBb.keep hk hr)⟩
theorem EvI.reads (h : EvI B wr A c rows vs) (h1 : rows.length ≤ 140737488355328) : RdBB wr (fun b => B ≤ b) A c rows :=
  ⟨vs, Rd.own h.own h1 (fun _ h => h), fun i hi => by
    obtain ⟨A', c', e, hr⟩ := h.rd i hi
    exact ⟨A', c', e, hr.mono fun _ h _ => h.1⟩⟩
end
theorem bools_info : (Try.prog.info? 41).map (fun i => (i.zero, i.size, i.bytes)) = some (some (.slice none 0 0), 1, 24) := by kernel_rfl

set_option maxRecDepth 100000 in
set_option maxHeartbeats 4000000 in
theorem every_any {D : Dom} (v : Value) (m : Mly) (b : Bool) (w : World) (h : RdM w D v m) (hn1 : m.out.length ≤ 10000) (hi1 : m.ins ≤ 10000) :
    Calls Try.prog 28 #[v, .bool b] w fun e w' => ∃ A c, e = .returned (.slice A (everyZ m b m.out.length).length c) ∧ Below w.heap.size w w' ∧ RdBB w' (fun k => w.heap.size ≤ k) A c (everyZ m b m.out.length) := by
  obtain ⟨i0, hti, hz0, hz1, hz2⟩ := info_parts bool_info
  obtain ⟨i1, htr, hy0, hy1, hy2⟩ := info_parts bools_info
  obtain ⟨Ao, co, An, cn, rfl, ho, hn⟩ := h
  have hlo := ho.len.1
  clear ho hn
  go_enter Try.func28, Try.ntmps28
  go_wp2_with fail
  refine wp_gen fun W1 hW1 => ?_
  have hb1 : Below w.heap.size w W1 := by rw [hW1]; go_grown
  have hx1 : W1.heap[w.heap.size]? = some (.cells #[.int .i64 m.ins, .int .i64 m.outs, .int .i64 m.start, .slice Ao m.out.length co, .slice An m.next.length cn] 24 (0, 0)) := by rw [hW1]; exact heap_alloc_new w _
  have HB1 := hid hb1
  have HX1 := hid hx1
  have hs1 : w.heap.size < W1.heap.size := lt_of_block hx1
  clear hW1 hb1 hx1
  go_loopw [5, 6] (fun s t wr => ∃ (k : Nat) (A : Option Addr) (c : Nat) (rows : List (List Bool)) (vs : List Value), k ≤ m.out.length ∧ t = .int .i64 k ∧ rows = everyZ m b k ∧ rows.length = k ∧ s = .slice A rows.length c ∧ EvI W1.heap.size wr A c rows vs ∧ Below W1.heap.size W1 wr) (fun _ t _ => m.out.length - (intOf t).toNat)
  case atStart => exact ⟨0, none, 0, [], [], Nat.zero_le _, rfl, rfl, rfl, rfl, ⟨⟨rfl, .inl ⟨rfl, rfl⟩⟩, RowsB.nil _ _ _⟩, Below.refl _ _⟩
  case round =>
    obtain ⟨k, A, c, rows, vs, hk, rfl, hrw, hrl, rfl, hE, hbr⟩ := hrel
    have HE := hid hE
    have HB := hid hbr
    have HRW := hid hrw
    have HRL := hid hrl
    have hx := (hbr.block _ (lt_of_block HX1.out)).trans HX1.out
    have x0 := block_cell hx (i := 0) rfl
    have x3 := block_cell hx (i := 3) rfl
    have hrl2 : rows.length ≤ 10000 := by omega
    have hszr := hbr.size
    clear hE hbr hrw hrl hx
    by_cases hlt : k < m.out.length
    · obtain ⟨wz, rfl⟩ : ∃ wz : World, wz = wr := ⟨_, rfl⟩
      go_wp2_with fail
      go_loopw [7, 8] (fun s t wr => ∃ (x : Nat) (Ar : Option Addr) (cr : Nat), x ≤ m.ins.toNat ∧ t = .int .i64 (x : Int) ∧ s = .slice Ar x cr ∧ wr.ownsRow wz.heap.size 4 1 (.slice Ar x cr) x ((List.replicate x b).map .bool) ∧ Below wz.heap.size wz wr) (fun _ t _ => m.ins.toNat - (intOf t).toNat)
      case atStart => exact ⟨0, none, 0, Nat.zero_le _, rfl, rfl, ⟨rfl, .inl ⟨rfl, rfl⟩⟩, Below.refl _ _⟩
      case round =>
        obtain ⟨x, Ar, cr, hx, rfl, rfl, hown, hbz⟩ := hrel
        have HO := hid hown
        have HBZ := hid hbz
        have hxx := ((HB.out.trans (hbz.mono hszr)).block _ (lt_of_block HX1.out)).trans HX1.out
        have x0 := block_cell hxx (i := 0) rfl
        have hsz := hbz.size
        clear hown hbz hxx
        by_cases hxl : (x : Int) < m.ins
        · have hxx : decide ((x : Int) < m.ins) = true := decide_eq_true hxl
          go_wp2_with (at_builtin; go_must (refine wpList_append_rd _ rfl (.tmp 22) (.tmp 24) 41 rfl wz.heap.size 4 i0 _ 1 1 Try.underlying41 hti hz0 hz1 hz2 rfl (by omega) (.slice Ar x cr) x _ rfl (HO.out.alloc _) _ (some ⟨wr.heap.size, 0, none⟩) 1 1 _ rfl (Rd.cell1 (cell_new wr _ _ _ _ _ rfl rfl)) (by simp [Value.oneCell']) (by omega) (maxLen_le (by omega)) (by simp; omega) ?_); intro A5 c5 w5 hown5 hg5 hat5)
          have hbz5 := Below.grown (B := wz.heap.size) (HBZ.out.trans ((show Below wr.heap.size wr _ from by go_grown).mono HBZ.out.size)) hg5 (by simp; omega) (fun k hk => (HO.out.lt k hk).1)
          have HO5 := hid hown5
          have HB5 := hid hbz5
          clear hown5 hg5 hat5 hbz5
          go_roundw
          case rel => exact ⟨x + 1, A5, c5, by omega, by go_num, rfl, by rw [List.replicate_succ', List.map_append]; exact HO5.out, HB5.out⟩
          case measure => simp [intOf]; omega
        · have hxx : decide ((x : Int) < m.ins) = false := decide_eq_false hxl
          obtain ⟨r7, hr7⟩ : ∃ r, r = List.replicate m.ins.toNat b := ⟨_, rfl⟩
          have hxe : x = m.ins.toNat := by omega
          have hr7l : r7.length = x := by rw [hr7, hxe]; simp
          have HROW := hid (show wr.ownsRow wz.heap.size 4 1 (.slice Ar x cr) x (r7.map .bool) by rw [hr7, ← hxe]; exact HO.out)
          have HR7 := hid hr7
          have HR7L := hid hr7l
          clear hxe hr7 hr7l
          go_wp2_with (at_builtin; go_must (refine wpList_append_rd _ rfl (.tmp 26) (.tmp 28) 25 rfl W1.heap.size 41 i1 _ 1 24 Try.underlying25 htr hy0 hy1 hy2 rfl (by omega) (.slice A rows.length c) rows.length _ rfl ((own_below HE.out.own HBZ.out).alloc _) _ (some ⟨wr.heap.size, 0, none⟩) 1 1 _ rfl (Rd.cell1 (cell_new wr _ _ _ _ _ rfl rfl)) (by simp [Value.oneCell']) (by omega) (maxLen_le (by omega)) (by simp; omega) ?_); intro A5 c5 w5 hown5 hg5 hat5)
          have hE5 := ((HE.out.later HBZ.out).later (show Below wr.heap.size wr _ by go_grown)).push (IBb.own (n := x) (B' := wz.heap.size) hszr (HROW.out.alloc _) HR7L.out.symm (by omega)) hg5 (by rw [HR7L.out]; exact hown5)
          have hb5 := Below.grown (B := W1.heap.size) ((HB.out.trans (HBZ.out.mono hszr)).trans ((show Below wr.heap.size wr _ from by go_grown).mono (by omega))) hg5 (by simp; omega) (fun k hk => ((own_below HE.out.own HBZ.out).lt k hk).1)
          have HE5 := hid hE5
          have HB5 := hid hb5
          clear hown5 hg5 hat5 hE5 hb5
          go_roundw
          case rel => exact ⟨k + 1, A5, c5, rows ++ [r7], _, by omega, by go_num, by rw [everyZ_succ, ← HRW.out, HR7.out], by rw [List.length_append, HRL.out]; rfl, by simp, HE5.out, HB5.out⟩
          case measure => simp [intOf]; omega
    · have hke : k = m.out.length := by omega
      have HKE := hid hke
      clear hke
      go_wp2_with fail
      go_ret
      have e : everyZ m b m.out.length = rows := by rw [← HKE.out, ← HRW.out]
      rw [e]
      exact ⟨A, c, rfl, HB1.out.trans (HB.out.mono HB1.out.size), (HE.out.reads (by omega)).mono fun k h _ => by omega⟩
end Go.Proofs.Ytcmhginhfhiolaa
