/-
  Walk of slices.CompactFunc with the closure of distinct.
  Sets of formulas as sorted lists, plain; the walk of distinct.
-/
import Derived.Test.YtdakdpfofgkjoaaGreatDoorZ23
set_option linter.unusedVariables false
set_option linter.unusedSimpArgs false
namespace Go.Proofs.YtdakdpfofgkjoaaGreatDoor
open Go.RowKit Go.Shelf
attribute [local go_sem] cell_alloc_old

theorem FRow.cap {w : World} {base g c : Nat} {gs : List Fm} {sl : List (Option Addr × Nat)} (h : FRow w base (some ⟨g, 0, none⟩) c gs sl) : gs.length ≤ c ∧ c ≤ 9223372036854775807 := by
  rcases h.own.2 with ⟨h0, _⟩ | ⟨g', cap, cur, hv, hb, hg, q1, q2, q3, q4⟩
  · cases h0
  · injection hv with e1 e2 e3
    subst e3
    exact ⟨q1, q2⟩
theorem run_clear_cells {P : Program} (w : World) (t e ty : TypeId) (z : Value) (ht : P.underlying t = some (.slice e)) (hv : ∀ w, (zeroValue e).run P w = .ok z w) (h1 : ∀ v ∈ z.cells, v.oneCell' = true) (h0 : 0 < z.cells.size) (b o n c : Nat) (hn : 0 < n)
    (hc : ∀ j, j < n * z.cells.size → (w.cell? ⟨b, o + j, none⟩).isSome = true) (hf : ∀ j, j < n * z.cells.size → w.frozen? ⟨b, o + j, none⟩ = false) :
    (Builtin.clear_ #[t] ty #[.slice (some ⟨b, o, none⟩) n c]).run P w = .ok (.tuple #[]) (w.setCells b o (Builtin.zeroCells z.cells n).toList) := by
  have hl : (Builtin.zeroCells z.cells n).toList.length = n * z.cells.size := by rw [Array.length_toList, size_zeroCells]
  have hst := run_storeCells_cells (P := P) b o (Builtin.zeroCells z.cells n).toList 0 w (by rw [hl]; simpa using hc) (by rw [hl]; simpa using hf) (by
    intro v hv'
    unfold Builtin.zeroCells at hv'
    rw [Array.toList_map, List.mem_map] at hv'
    obtain ⟨i, _, rfl⟩ := hv'
    have hlt : i % z.cells.size < z.cells.size := Nat.mod_lt _ h0
    rw [getElem!_pos z.cells _ hlt]
    exact h1 _ (Array.getElem_mem hlt))
  simp only [Nat.add_zero] at hst
  obtain ⟨m, rfl⟩ : ∃ m, n = m + 1 := ⟨n - 1, by omega⟩
  simp [Builtin.clear_, run_underlying ht, hv, hst]
theorem setCells_block (g : Nat) (t : TypeId) : ∀ (vs : List Value) (o : Nat) (w : World) (cur : Array Value), w.heap[g]? = some (.cells cur t (0, 0)) → ∃ cur', (w.setCells g o vs).heap[g]? = some (.cells cur' t (0, 0)) ∧ cur'.size = cur.size ∧ ∀ i, i < o → cur'[i]? = cur[i]?
  | [], _, _, cur, h => ⟨cur, h, rfl, fun _ _ => rfl⟩
  | v :: vs, o, w, cur, h => by
    obtain ⟨cur', h1, h2, h3⟩ := setCells_block g t vs (o + 1) (w.setCell ⟨g, o, none⟩ v) _ (set_block h v)
    refine ⟨cur', h1, by simpa using h2, fun i hi => ?_⟩
    rw [h3 i (by omega), Array.getElem?_setIfInBounds, if_neg (by omega)]
theorem FRow.past {w : World} {base g c : Nat} {gs : List Fm} {sl : List (Option Addr × Nat)} (h : FRow w base (some ⟨g, 0, none⟩) c gs sl) (vs : List Value) (o : Nat) (ho : gs.length * 5 ≤ o) : FRow (w.setCells g o vs) base (some ⟨g, 0, none⟩) c gs sl := by
  have hc : Chg (fun x => x = g) w (w.setCells g o vs) := ⟨(setCells_world g vs o w).1, (setCells_world g vs o w).2.1, (setCells_world g vs o w).2.2.1, Nat.le_of_eq (setCells_world g vs o w).2.2.2.1.symm, fun k _ hk => (setCells_world g vs o w).2.2.2.2.1 k hk⟩
  refine ⟨⟨h.own.1, ?_⟩, h.len, fun i hi => ?_⟩
  · rcases h.own.2 with ⟨h0, _⟩ | ⟨g', cap, cur, hv, hb, hg, q1, q2, q3, q4⟩
    · cases h0
    · injection hv with e1 e2 e3
      injection e1 with e1
      injection e1 with e1
      subst e1 e3
      obtain ⟨cur', k1, k2, k3⟩ := setCells_block g _ vs o w cur hg
      refine .inr ⟨g, c, cur', rfl, hb, k1, q1, q2, by omega, ?_⟩
      rw [← q4]
      apply List.ext_getElem?
      intro i
      by_cases hi : i < gs.length * 5
      · rw [List.getElem?_take_of_lt hi, List.getElem?_take_of_lt hi, Array.getElem?_toList, Array.getElem?_toList, k3 i (by omega)]
      · rw [List.getElem?_take_eq_none (by omega), List.getElem?_take_eq_none (by omega)]
  · have hk : Keeps (fun k => Nw base w k ∧ (Value.slice (some ⟨g, 0, none⟩) gs.length c).ownBlock ≠ some k) w (w.setCells g o vs) := hc.keeps fun k _ hk hv => hk.2 (by rw [hv]; rfl)
    exact ((h.arg i hi).keep hk).mono fun k hk' _ => ⟨⟨hk'.1.1, hk'.1.2.of_eq (hk.block k hk' hk'.1.2.lt)⟩, hk'.2⟩
theorem setCells_chg (w : World) (b o : Nat) (vs : List Value) : Chg (fun x => x = b) w (w.setCells b o vs) :=
  ⟨(setCells_world b vs o w).1, (setCells_world b vs o w).2.1, (setCells_world b vs o w).2.2.1, Nat.le_of_eq (setCells_world b vs o w).2.2.2.1.symm, fun k _ hk => (setCells_world b vs o w).2.2.2.2.1 k hk⟩
set_option maxRecDepth 100000 in
set_option maxHeartbeats 4000000 in
theorem compact_any {w : World} {base g c n cb : Nat} {gs : List Fm} {sl : List (Option Addr × Nat)} (h : FRow w base (some ⟨g, 0, none⟩) c gs sl) (hn : n = gs.length) (hs : ∀ f, f ∈ gs → f.size ≤ 1000000) (hlen : gs.length ≤ 1000000)
    (hcb : w.cell? ⟨cb, 0, none⟩ = some (.func (.func 114) #[] #[])) (hne : cb ≠ g) :
    Calls Tryz.prog 128 #[.slice (some ⟨g, 0, none⟩) n c, .func (.func 129) #[] #[.pointer (some ⟨cb, 0, none⟩)]] w fun e w' =>
      e = .returned (.slice (some ⟨g, 0, none⟩) (dedF gs).length c) ∧ (∃ sl', FRow w' base (some ⟨g, 0, none⟩) c (dedF gs) sl') ∧ Chg (fun x => x = g) w w' := by
  subst hn
  have HR := hid h
  have HS := hid hs
  have HCB := hid hcb
  have hcbl := World.block_lt_of_cell? w _ hcb
  have hgl := (h.ge rfl).2
  have eg : ∀ args W, (callFunc 129 args).run Tryz.prog W = .ok (.enter 129 args) W := enters_of Tryz.func129 (by kernel_rfl) rfl
  clear h hs hcb
  by_cases h2 : gs.length < 2
  · have h2i : ((gs.length : Int) < 2) := by omega
    have HD := hid (dedF_short h2)
    go_enter Tryz.func128, Tryz.ntmps128
    go_wp2_with fail
    go_ret
    rw [HD.out]
    exact ⟨rfl, ⟨sl, HR.out⟩, Chg.refl _ _⟩
  · have h2i : ¬ ((gs.length : Int) < 2) := by omega
    go_enter Tryz.func128, Tryz.ntmps128
    go_wp2_with fail
    go_loopw [5] (fun q wr => ∃ j : Nat, j + 1 ≤ gs.length ∧ q = .int .i64 ((j : Int) + 1) ∧ Bel w wr ∧ ∀ k, 0 < k → k < j + 1 → (gs.getD k default).cmp (gs.getD (k - 1) default) ≠ 0) (fun q _ => gs.length - (intOf q).toNat)
    case atStart => exact ⟨0, by omega, rfl, Bel.refl _, fun k h1 h2 => by omega⟩
    case round =>
      obtain ⟨j, hj, rfl, hb, hall⟩ := hrel
      have HBR := hid hb
      have HALL := hid hall
      have HRr := hid (HR.out.chg (Chg.of_new (V := fun _ => False) hb.below) fun _ h => h.elim)
      clear hb hall
      by_cases hlt : j + 1 < gs.length
      · have hii : (j : Int) + 1 < (gs.length : Int) := by omega
        have hji : (j : Int) < (gs.length : Int) := by omega
        obtain ⟨A1, c1, f1, HX1, hs1, p0, p1, p2, p3, p4, _, _, _, _, _, gl, ha1⟩ := HRr.out.get (i := j) (by omega)
        obtain ⟨A2, c2, f2, HX2, hs2, r0, r1, r2, r3, r4, _, _, _, _, _, _, ha2⟩ := HRr.out.get (i := j + 1) hlt
        have hwj : IntKind.i64.wrap ((j : Int) + 1 - 1) = (j : Int) := by rw [show (j : Int) + 1 - 1 = (j : Int) by omega]; exact IntWalk.i64_in _ (by omega)
        have hwj2 : IntKind.i64.wrap (j : Int) = (j : Int) := IntWalk.i64_in _ (by omega)
        have hwj3 : wrap64 ((j : Int) + 1 - 1) = (j : Int) := (IntWalk.i64_left _).symm.trans hwj
        have hj0 : (0 : Int) ≤ (j : Int) := by omega
        have hj1 : (0 : Int) ≤ (j : Int) + 1 := by omega
        go_upto_region 6 with (fail)
        have hsz2 : f2.size ≤ 1000000 := HS.out f2 (by have := HX2.out; rw [← this]; exact getD_memF hlt)
        have HCBW := hid ((HBR.out.below.cell (p := ⟨cb, 0, none⟩) hcbl).trans HCB.out)
        have HCELL : Hid (∀ W' : World, Bel wr W' → W'.cell? ⟨g, (j + 1) * 5, none⟩ = some (.int .i64 f2.op) ∧ W'.cell? ⟨g, (j + 1) * 5 + 1, none⟩ = some (.string f2.name) ∧ W'.cell? ⟨g, (j + 1) * 5 + 2, none⟩ = some (.int .i64 f2.val) ∧ W'.cell? ⟨g, (j + 1) * 5 + 3, none⟩ = some (.int .i64 f2.bound) ∧ W'.cell? ⟨g, (j + 1) * 5 + 4, none⟩ = some (.slice A2 f2.args.length c2) ∧ W'.cell? ⟨g, j * 5, none⟩ = some (.int .i64 f1.op) ∧ W'.cell? ⟨g, j * 5 + 1, none⟩ = some (.string f1.name) ∧ W'.cell? ⟨g, j * 5 + 2, none⟩ = some (.int .i64 f1.val) ∧ W'.cell? ⟨g, j * 5 + 3, none⟩ = some (.int .i64 f1.bound) ∧ W'.cell? ⟨g, j * 5 + 4, none⟩ = some (.slice A1 f1.args.length c1)) := hid fun W' hb =>
          ⟨(hb.below.cell (p := ⟨g, _, none⟩) gl).trans r0, (hb.below.cell (p := ⟨g, _, none⟩) gl).trans r1, (hb.below.cell (p := ⟨g, _, none⟩) gl).trans r2, (hb.below.cell (p := ⟨g, _, none⟩) gl).trans r3, (hb.below.cell (p := ⟨g, _, none⟩) gl).trans r4, (hb.below.cell (p := ⟨g, _, none⟩) gl).trans p0, (hb.below.cell (p := ⟨g, _, none⟩) gl).trans p1, (hb.below.cell (p := ⟨g, _, none⟩) gl).trans p2, (hb.below.cell (p := ⟨g, _, none⟩) gl).trans p3, (hb.below.cell (p := ⟨g, _, none⟩) gl).trans p4⟩
        have HCALL : Hid (∀ W' : World, Bel wr W' → Calls Tryz.prog 129 #[.agg #[.int .i64 f2.op, .string f2.name, .int .i64 f2.val, .int .i64 f2.bound, .slice A2 f2.args.length c2], .agg #[.int .i64 f1.op, .string f1.name, .int .i64 f1.val, .int .i64 f1.bound, .slice A1 f1.args.length c1], .pointer (some ⟨cb, 0, none⟩)] W' fun e w' => e = .returned (.bool (f2.cmp f1 == 0)) ∧ Bel wr w') := hid fun W' hb => by
          have hD : ∀ k, (Nw base wr k ∧ k ≠ g) ∧ k < wr.heap.size → Cl W' k := fun k hk => hk.1.1.2.of_eq (hb.below.block k hk.2)
          refine (eqf_any f2 f1 _ _ cb W' (RdF3.cells5 ((ha2.mono (E := fun k => (Nw base wr k ∧ k ≠ g) ∧ k < wr.heap.size) fun k hk hl => ⟨hk, hl⟩).keep (Keeps.of_below hb.below fun _ h => h.2))) (RdF3.cells5 ((ha1.mono (E := fun k => (Nw base wr k ∧ k ≠ g) ∧ k < wr.heap.size) fun k hk hl => ⟨hk, hl⟩).keep (Keeps.of_below hb.below fun _ h => h.2))) hsz2 (.inl hD) ((hb.below.cell (p := ⟨cb, 0, none⟩) (World.block_lt_of_cell? _ ⟨cb, 0, none⟩ HCBW.out)).trans HCBW.out)).mono ?_
          rintro e w' ⟨rfl, hb'⟩
          exact ⟨rfl, hb.trans hb'⟩
        have HI0 := hid (Bel.refl wr)
        have HI1 := hid (show Bel wr (World.drew wr) from (Bel.refl wr).drewN 1)
        have HI2 := hid (show ∀ i, Bel wr (World.drewN wr i) from fun i => (Bel.refl wr).drewN i)
        have HAA := hid (And.intro ha1 ha2)
        clear ha1 ha2
        go_region_held3 (fun W' : World => W'.cell? ⟨g, (j + 1) * 5, none⟩ = some (.int .i64 f2.op) ∧ W'.cell? ⟨g, (j + 1) * 5 + 1, none⟩ = some (.string f2.name) ∧ W'.cell? ⟨g, (j + 1) * 5 + 2, none⟩ = some (.int .i64 f2.val) ∧ W'.cell? ⟨g, (j + 1) * 5 + 3, none⟩ = some (.int .i64 f2.bound) ∧ W'.cell? ⟨g, (j + 1) * 5 + 4, none⟩ = some (.slice A2 f2.args.length c2) ∧ W'.cell? ⟨g, j * 5, none⟩ = some (.int .i64 f1.op) ∧ W'.cell? ⟨g, j * 5 + 1, none⟩ = some (.string f1.name) ∧ W'.cell? ⟨g, j * 5 + 2, none⟩ = some (.int .i64 f1.val) ∧ W'.cell? ⟨g, j * 5 + 3, none⟩ = some (.int .i64 f1.bound) ∧ W'.cell? ⟨g, j * 5 + 4, none⟩ = some (.slice A1 f1.args.length c1))
          (first | (with_reducible exact HCELL.out _ hI) | (go_keep; done))
          ((go_at_call 129; (with_reducible refine (HCALL.out _ (by first | exact HI0.out | exact HI1.out | exact HI2.out _)).mono ?_); rintro e W9 ⟨rfl, hI⟩))
        all_goals
          have HBW := hid (HBR.out.trans hI)
          clear p0 p1 p2 p3 p4 r0 r1 r2 r3 r4
          by_cases hq : f2.cmp f1 = 0
          · have hq1 : (f2.cmp f1 == 0) = true := by rw [hq]; rfl
            have HQ := hid (show (gs.getD (j + 1) default).cmp (gs.getD j default) = 0 by rw [HX1.out, HX2.out]; exact hq)
            rw [hq1]
            clear hq hq1
            go_upto_region 8 with (fail)
            have HR9 := hid (HR.out.chg (Chg.of_new (V := fun _ => False) HBW.out.below) fun _ h => h.elim)
            have hcap := HR9.out.cap
            have hcj : ¬ c = j + 1 := by omega
            have HC9 := hid (show Chg (fun x => x = g) w W9 from Chg.of_new HBW.out.below)
            obtain ⟨n2, hn2⟩ : ∃ n2, n2 = gs.length - (j + 1) := ⟨_, rfl⟩
            have HN2 := hid hn2
            have HSTART := hid (show compN gs (j + 1 + (0 + 1)) = gs.take (j + 1) by
              rw [Nat.zero_add, compN_eq (by omega) (by rw [Nat.add_sub_cancel]; exact HQ.out)]
              exact compN_same gs _ (by omega) HALL.out)
            rw [← hn2]
            clear hn2 hI HCELL HCALL HI0 HI1 HI2 HAA HX1 HX2 hs1 hs2
            go_wp2_with fail
            go_loopw [5, 7] (fun q r wr => ∃ (k m : Nat) (R : List Fm) (slR : List (Option Addr × Nat)), j + 1 + (k + 1) ≤ gs.length ∧ r = .int .i64 ((k : Int) + 1) ∧ m = (compN gs (j + 1 + (k + 1))).length ∧ q = .int .i64 (m : Int) ∧ Chg (fun x => x = g) w wr ∧ FRow wr base (some ⟨g, 0, none⟩) c R slR ∧ R.length = gs.length ∧
              (∀ p, j + 1 + k ≤ p → p < gs.length → R.getD p default = gs.getD p default) ∧ R.take m = compN gs (j + 1 + (k + 1)) ∧ m ≤ j + 1 + k) (fun _ r _ => gs.length - (intOf r).toNat)
            case atStart =>
              refine ⟨0, j + 1, gs, sl, by omega, rfl, ?_, by go_num, HC9.out, HR9.out, rfl, fun p _ _ => rfl, HSTART.out.symm, by omega⟩
              rw [HSTART.out, List.length_take]; omega
            case round =>
              obtain ⟨k, m, R, slR, hk, rfl, hm, rfl, hc, hr, hrl, hsuf, hpre, hmk⟩ := hrel
              have HC := hid hc
              have HRr2 := hid hr
              have HSUF := hid hsuf
              have HPRE := hid hpre
              have HM := hid hm
              have HRL := hid hrl
              clear hc hr hsuf hpre hm hrl
              by_cases hlt2 : j + 1 + (k + 1) < gs.length
              · have hii2 : (k : Int) + 1 < (n2 : Int) := by have := HN2.out; omega
                have hii1 : (k : Int) < (n2 : Int) := by omega
                obtain ⟨B1, d1, x1, HX1, hs1, p0, p1, p2, p3, p4, _, _, _, _, _, gl, ha1⟩ := HRr2.out.get (i := j + 1 + k) (by have := HRL.out; omega)
                obtain ⟨B2, d2, x2, HX2, hs2, r0, r1, r2, r3, r4, _, _, _, _, _, _, ha2⟩ := HRr2.out.get (i := j + 1 + (k + 1)) (by have := HRL.out; omega)
                have ea1 : (j + 1 + k) * 5 = (j + 1) * 5 + k * 5 := by omega
                have ea2 : (j + 1 + (k + 1)) * 5 = (j + 1) * 5 + (k + 1) * 5 := by omega
                rw [ea1] at p0 p1 p2 p3 p4
                rw [ea2] at r0 r1 r2 r3 r4
                have hx1 : x1 = gs.getD (j + 1 + k) default := by rw [← HX1.out]; exact HSUF.out _ (Nat.le_refl _) (by omega)
                have hx2 : x2 = gs.getD (j + 1 + (k + 1)) default := by rw [← HX2.out]; exact HSUF.out _ (by omega) hlt2
                have hsz2 : x2.size ≤ 1000000 := HS.out x2 (by rw [hx2]; exact getD_memF hlt2)
                have HXE := hid (And.intro hx1 hx2)
                have HCBW := hid (show wr.cell? ⟨cb, 0, none⟩ = some (.func (.func 114) #[] #[]) from (World.cell?_of_block (a := ⟨cb, 0, none⟩) (HC.out.block cb hcbl hne)).trans HCB.out)
                have hwk : IntKind.i64.wrap (k : Int) = (k : Int) := IntWalk.i64_in _ (by omega)
                have hwk2 : IntKind.i64.wrap ((k : Int) + 1 - 1) = (k : Int) := by rw [show (k : Int) + 1 - 1 = (k : Int) by omega]; exact hwk
                clear hx1 hx2 ea1 ea2
                have hwk3 : wrap64 ((k : Int) + 1 - 1) = (k : Int) := (IntWalk.i64_left _).symm.trans hwk2
                have hk0 : (0 : Int) ≤ (k : Int) := by omega
                have hk1 : (0 : Int) ≤ (k : Int) + 1 := by omega
                go_upto_region 11 with (fail)
                have HCELL : Hid (∀ W' : World, Bel wr W' → W'.cell? ⟨g, (j + 1) * 5 + (k + 1) * 5, none⟩ = some (.int .i64 x2.op) ∧ W'.cell? ⟨g, (j + 1) * 5 + (k + 1) * 5 + 1, none⟩ = some (.string x2.name) ∧ W'.cell? ⟨g, (j + 1) * 5 + (k + 1) * 5 + 2, none⟩ = some (.int .i64 x2.val) ∧ W'.cell? ⟨g, (j + 1) * 5 + (k + 1) * 5 + 3, none⟩ = some (.int .i64 x2.bound) ∧ W'.cell? ⟨g, (j + 1) * 5 + (k + 1) * 5 + 4, none⟩ = some (.slice B2 x2.args.length d2) ∧ W'.cell? ⟨g, (j + 1) * 5 + k * 5, none⟩ = some (.int .i64 x1.op) ∧ W'.cell? ⟨g, (j + 1) * 5 + k * 5 + 1, none⟩ = some (.string x1.name) ∧ W'.cell? ⟨g, (j + 1) * 5 + k * 5 + 2, none⟩ = some (.int .i64 x1.val) ∧ W'.cell? ⟨g, (j + 1) * 5 + k * 5 + 3, none⟩ = some (.int .i64 x1.bound) ∧ W'.cell? ⟨g, (j + 1) * 5 + k * 5 + 4, none⟩ = some (.slice B1 x1.args.length d1)) := hid fun W' hb =>
                  ⟨(hb.below.cell (p := ⟨g, _, none⟩) gl).trans r0, (hb.below.cell (p := ⟨g, _, none⟩) gl).trans r1, (hb.below.cell (p := ⟨g, _, none⟩) gl).trans r2, (hb.below.cell (p := ⟨g, _, none⟩) gl).trans r3, (hb.below.cell (p := ⟨g, _, none⟩) gl).trans r4, (hb.below.cell (p := ⟨g, _, none⟩) gl).trans p0, (hb.below.cell (p := ⟨g, _, none⟩) gl).trans p1, (hb.below.cell (p := ⟨g, _, none⟩) gl).trans p2, (hb.below.cell (p := ⟨g, _, none⟩) gl).trans p3, (hb.below.cell (p := ⟨g, _, none⟩) gl).trans p4⟩
                have HCALL : Hid (∀ W' : World, Bel wr W' → Calls Tryz.prog 129 #[.agg #[.int .i64 x2.op, .string x2.name, .int .i64 x2.val, .int .i64 x2.bound, .slice B2 x2.args.length d2], .agg #[.int .i64 x1.op, .string x1.name, .int .i64 x1.val, .int .i64 x1.bound, .slice B1 x1.args.length d1], .pointer (some ⟨cb, 0, none⟩)] W' fun e w' => e = .returned (.bool (x2.cmp x1 == 0)) ∧ Bel wr w') := hid fun W' hb => by
                  have hD : ∀ k, (Nw base wr k ∧ k ≠ g) ∧ k < wr.heap.size → Cl W' k := fun k hk => hk.1.1.2.of_eq (hb.below.block k hk.2)
                  refine (eqf_any x2 x1 _ _ cb W' (RdF3.cells5 ((ha2.mono (E := fun k => (Nw base wr k ∧ k ≠ g) ∧ k < wr.heap.size) fun k hk hl => ⟨hk, hl⟩).keep (Keeps.of_below hb.below fun _ h => h.2))) (RdF3.cells5 ((ha1.mono (E := fun k => (Nw base wr k ∧ k ≠ g) ∧ k < wr.heap.size) fun k hk hl => ⟨hk, hl⟩).keep (Keeps.of_below hb.below fun _ h => h.2))) hsz2 (.inl hD) ((hb.below.cell (p := ⟨cb, 0, none⟩) (World.block_lt_of_cell? _ ⟨cb, 0, none⟩ HCBW.out)).trans HCBW.out)).mono ?_
                  rintro e w' ⟨rfl, hb'⟩
                  exact ⟨rfl, hb.trans hb'⟩
                have HI0 := hid (Bel.refl wr)
                have HI1 := hid (show Bel wr (World.drew wr) from (Bel.refl wr).drewN 1)
                have HI2 := hid (show ∀ i, Bel wr (World.drewN wr i) from fun i => (Bel.refl wr).drewN i)
                have HAA := hid (And.intro ha1 ha2)
                clear ha1 ha2
                go_region_held3 (fun W' : World => W'.cell? ⟨g, (j + 1) * 5 + (k + 1) * 5, none⟩ = some (.int .i64 x2.op) ∧ W'.cell? ⟨g, (j + 1) * 5 + (k + 1) * 5 + 1, none⟩ = some (.string x2.name) ∧ W'.cell? ⟨g, (j + 1) * 5 + (k + 1) * 5 + 2, none⟩ = some (.int .i64 x2.val) ∧ W'.cell? ⟨g, (j + 1) * 5 + (k + 1) * 5 + 3, none⟩ = some (.int .i64 x2.bound) ∧ W'.cell? ⟨g, (j + 1) * 5 + (k + 1) * 5 + 4, none⟩ = some (.slice B2 x2.args.length d2) ∧ W'.cell? ⟨g, (j + 1) * 5 + k * 5, none⟩ = some (.int .i64 x1.op) ∧ W'.cell? ⟨g, (j + 1) * 5 + k * 5 + 1, none⟩ = some (.string x1.name) ∧ W'.cell? ⟨g, (j + 1) * 5 + k * 5 + 2, none⟩ = some (.int .i64 x1.val) ∧ W'.cell? ⟨g, (j + 1) * 5 + k * 5 + 3, none⟩ = some (.int .i64 x1.bound) ∧ W'.cell? ⟨g, (j + 1) * 5 + k * 5 + 4, none⟩ = some (.slice B1 x1.args.length d1))
                  (first | (with_reducible exact HCELL.out _ hI2) | (go_keep; done))
                  ((go_at_call 129; (with_reducible refine (HCALL.out _ (by first | exact HI0.out | exact HI1.out | exact HI2.out _)).mono ?_); rintro e W9 ⟨rfl, hI2⟩))
                all_goals
                  have HC9' := hid (HC.out.trans (Chg.of_new hI2.below))
                  by_cases hq : x2.cmp x1 = 0
                  · have hq1 : (x2.cmp x1 == 0) = true := by rw [hq]; rfl
                    have HEQ := hid (show compN gs (j + 1 + (k + 1 + 1)) = compN gs (j + 1 + (k + 1)) by
                      refine compN_eq (j := j + 1 + (k + 1)) (by omega) ?_
                      rw [show j + 1 + (k + 1) - 1 = j + 1 + k by omega, ← HXE.out.1, ← HXE.out.2]
                      exact hq)
                    have HF9 := hid (HRr2.out.chg (Chg.of_new (V := fun _ => False) hI2.below) fun _ h => h.elim)
                    rw [hq1]
                    clear hq hq1 p0 p1 p2 p3 p4 r0 r1 r2 r3 r4 hI2
                    go_wp2_with fail
                    go_roundw
                    case rel => exact ⟨k + 1, m, R, slR, by omega, by go_num, by rw [HEQ.out]; exact HM.out, rfl, HC9'.out, HF9.out, HRL.out, fun p h1 h2 => HSUF.out p (by omega) h2, by rw [HEQ.out]; exact HPRE.out, by omega⟩
                    case measure => simp [intOf]; omega
                  · have hq1 : (x2.cmp x1 == 0) = false := beq_false_of hq
                    have HNE := hid (show compN gs (j + 1 + (k + 1 + 1)) = compN gs (j + 1 + (k + 1)) ++ [x2] by
                      have : compN gs (j + 1 + (k + 1) + 1) = _ := compN_ne (gs := gs) (j := j + 1 + (k + 1)) (by
                        rw [show j + 1 + (k + 1) - 1 = j + 1 + k by omega, ← HXE.out.1, ← HXE.out.2]
                        exact hq)
                      rw [HXE.out.2]
                      exact this)
                    have hml : m < R.length := by have := HRL.out; omega
                    have HF9 := hid (HRr2.out.chg (Chg.of_new (V := fun _ => False) hI2.below) fun _ h => h.elim)
                    obtain ⟨e1, e2, e3, hxm, hsm, u0, u1, u2, u3, u4, v0, v1, v2, v3, v4, gl9, ham⟩ := HF9.out.get hml
                    obtain ⟨s0, s1, s2, s3, s4, s5⟩ := HCELL.out W9 hI2
                    have hmi : (m : Int) < (gs.length : Int) := by have := HRL.out; omega
                    have HA9 := hid (show RdA W9 (fun k => Nw base W9 k ∧ k ≠ g) x2.args B2 d2 from (by
                      have hk : Keeps (fun k => (Nw base wr k ∧ k ≠ g) ∧ k < wr.heap.size) wr W9 := Keeps.of_below hI2.below fun _ h => h.2
                      exact ((HAA.out.2.mono (E := fun k => (Nw base wr k ∧ k ≠ g) ∧ k < wr.heap.size) fun k hk hl => ⟨hk, hl⟩).keep hk).mono fun k hk' _ => ⟨⟨hk'.1.1.1, hk'.1.1.2.of_eq (hk.block k hk' hk'.2)⟩, hk'.1.2⟩))
                    rw [hq1]
                    clear hq hq1 p0 p1 p2 p3 p4 r0 r1 r2 r3 r4 hI2 hxm hsm ham s5
                    go_wp2_with fail
                    go_roundw
                    case rel =>
                      refine ⟨k + 1, m + 1, R.set m x2, slR.set m (B2, d2), by omega, by go_num, by rw [HNE.out, List.length_append, ← HM.out]; rfl, by go_num, HC9'.out.trans (set5_chg _ _ _ _ _ _ _ _), HF9.out.set hml x2 B2 d2 HA9.out, by rw [List.length_set]; exact HRL.out, fun p h1 h2 => ?_, ?_, by omega⟩
                      · rw [getD_set_ne (by omega)]
                        exact HSUF.out p (by omega) h2
                      · rw [HNE.out, ← HPRE.out, take_succ_getD _ default (by rw [List.length_set]; exact hml), getD_set_eq hml, List.take_set_of_le (Nat.le_refl _)]
                    case measure => simp [intOf]; omega
              · have hii2 : ¬ (k : Int) + 1 < (n2 : Int) := by have := HN2.out; omega
                have hkn : j + 1 + (k + 1) = gs.length := by omega
                have HDED := hid (show compN gs (j + 1 + (k + 1)) = dedF gs by rw [hkn]; rfl)
                have hmn : m < gs.length := by omega
                have hcm : ¬ c = m := by omega
                have hmi : ¬ (gs.length : Int) < (m : Int) := by omega
                have hmi2 : ¬ (m : Int) < 0 := by omega
                obtain ⟨L, hL⟩ : ∃ L, L = (Builtin.zeroCells (Value.agg #[.int .i64 0, .string ⟨#[]⟩, .int .i64 0, .int .i64 0, .slice none 0 0]).cells (gs.length - m)).toList := ⟨_, rfl⟩
                have hcl : ∀ ty, (Builtin.clear_ #[26] ty #[.slice (some ⟨g, m * 5, none⟩) (gs.length - m) (c - m)]).run Tryz.prog wr = .ok (.tuple #[]) (wr.setCells g (m * 5) L) := fun ty => by
                  rw [hL]
                  refine run_clear_cells wr _ 28 ty _ Tryz.underlying26 Tryz.zeroValue28 (by simp [Value.cells, Value.oneCell']) (by decide) g (m * 5) (gs.length - m) (c - m) (by omega) (fun x hx => ?_) (fun x hx => ?_)
                  · have hx' : x < (gs.length - m) * 5 := hx
                    have hlx : m * 5 + x < (cellsF R slR).length := by rw [cellsF_len HRr2.out.len, HRL.out]; omega
                    have hlen : (cellsF R slR)[m * 5 + x]? = some (cellsF R slR)[m * 5 + x] := List.getElem?_eq_getElem hlx
                    rw [(own_cell HRr2.out.own hlen).1]; rfl
                  · have hx' : x < (gs.length - m) * 5 := hx
                    have hlx : m * 5 + x < (cellsF R slR).length := by rw [cellsF_len HRr2.out.len, HRL.out]; omega
                    have hlen : (cellsF R slR)[m * 5 + x]? = some (cellsF R slR)[m * 5 + x] := List.getElem?_eq_getElem hlx
                    exact (own_cell HRr2.out.own hlen).2.1
                clear hL
                have HFIN := hid (show FRow (wr.setCells g (m * 5) L) base (some ⟨g, 0, none⟩) c (dedF gs) (slR.take m) by
                  have h1 := HRr2.out.take (n := m) (by rw [HRL.out]; omega)
                  rw [HPRE.out, HDED.out] at h1
                  refine h1.past _ _ ?_
                  rw [← HDED.out, ← HM.out]; exact Nat.le_refl _)
                have HML := hid (show (dedF gs).length = m by rw [← HDED.out, ← HM.out])
                have HCE := hid (HC.out.trans (setCells_chg wr g (m * 5) L))
                clear hkn
                go_wp2_with fail
                go_ret
                rw [HML.out]
                exact ⟨rfl, ⟨_, HFIN.out⟩, HCE.out⟩
          · have hq1 : (f2.cmp f1 == 0) = false := beq_false_of hq
            have HQ := hid (show (gs.getD (j + 1) default).cmp (gs.getD j default) ≠ 0 by rw [HX1.out, HX2.out]; exact hq)
            rw [hq1]
            clear hq hq1
            go_wp2_with fail
            go_roundw
            case rel =>
              refine ⟨j + 1, by omega, by go_num, HBW.out, fun k h1 h2 => ?_⟩
              rcases Nat.lt_succ_iff_lt_or_eq.1 h2 with h | h
              · exact HALL.out k h1 h
              · subst h
                rw [Nat.add_sub_cancel]
                exact HQ.out
            case measure => simp [intOf]; omega
      · have hii : ¬ (j : Int) + 1 < (gs.length : Int) := by omega
        have HD := hid (show dedF gs = gs by
          unfold dedF
          rw [compN_same gs _ (Nat.le_refl _) fun k h1 h2 => HALL.out k h1 (by omega), List.take_length])
        go_wp2_with fail
        go_ret
        rw [HD.out]
        exact ⟨rfl, ⟨sl, HRr.out⟩, Chg.of_new HBR.out.below⟩
end Go.Proofs.YtdakdpfofgkjoaaGreatDoor
set_option linter.unusedVariables false
set_option linter.unusedSimpArgs false
namespace Go.Proofs.YtdakdpfofgkjoaaGreatDoor
open Go.RowKit Go.Shelf
attribute [local go_sem] cell_alloc_old run_store_func

/-- A formula put into a strictly sorted list. -/
def insF (x : Fm) : List Fm → List Fm
  | [] => [x]
  | y :: l => if x.cmp y < 0 then x :: y :: l else if x.cmp y = 0 then y :: l else y :: insF x l
theorem insF_mem (x : Fm) : ∀ (l : List Fm) (z : Fm), z ∈ insF x l ↔ z = x ∨ z ∈ l
  | [], z => by simp [insF]
  | y :: l, z => by
    unfold insF
    by_cases h1 : x.cmp y < 0
    · rw [if_pos h1, List.mem_cons]
    · rw [if_neg h1]
      by_cases h2 : x.cmp y = 0
      · rw [if_pos h2]
        have := cmp_zero.1 h2
        subst this
        rw [List.mem_cons]
        constructor
        · rintro (h | h)
          · exact .inl h
          · exact .inr (.inr h)
        · rintro (h | h | h)
          · exact .inl h
          · exact .inl h
          · exact .inr h
      · rw [if_neg h2, List.mem_cons, insF_mem x l z, List.mem_cons]
        constructor
        · rintro (h | h | h)
          · exact .inr (.inl h)
          · exact .inl h
          · exact .inr (.inr h)
        · rintro (h | h | h)
          · exact .inr (.inl h)
          · exact .inl h
          · exact .inr (.inr h)
theorem insF_asc (x : Fm) : ∀ {l : List Fm}, AscF l → AscF (insF x l)
  | [], _ => by simp [insF, AscF]
  | y :: l, h => by
    have h0 := h
    rw [AscF, List.pairwise_cons] at h
    unfold insF
    by_cases h1 : x.cmp y < 0
    · rw [if_pos h1, AscF, List.pairwise_cons]
      refine ⟨fun z hz => ?_, h0⟩
      rcases List.mem_cons.1 hz with e | e
      · rw [e]; exact h1
      · exact (cmp_tri x y z).lt (by omega) (by have := h.1 z e; omega) (.inl h1)
    · rw [if_neg h1]
      by_cases h2 : x.cmp y = 0
      · rw [if_pos h2]; exact h0
      · rw [if_neg h2, AscF, List.pairwise_cons]
        refine ⟨fun z hz => ?_, insF_asc x h.2⟩
        rcases (insF_mem x l z).1 hz with e | e
        · rw [e, cmp_anti]; omega
        · exact h.1 z e
/-- The elements, sorted, each once. -/
def setF (gs : List Fm) : List Fm := gs.foldr insF []
theorem setF_asc : ∀ gs : List Fm, AscF (setF gs)
  | [] => List.Pairwise.nil
  | x :: gs => insF_asc x (setF_asc gs)
theorem setF_mem : ∀ (gs : List Fm) (z : Fm), z ∈ setF gs ↔ z ∈ gs
  | [], z => by simp [setF]
  | x :: gs, z => by
    show z ∈ insF x (setF gs) ↔ _
    rw [insF_mem, setF_mem gs z, List.mem_cons]
theorem AscF.set {ds gs : List Fm} (h : AscF ds) (hm : ∀ x, x ∈ ds ↔ x ∈ gs) : ds = setF gs := AscF.ext h (setF_asc gs) fun x => by rw [hm, setF_mem]
theorem setF_len (gs : List Fm) : (setF gs).length ≤ gs.length := by
  have : ∀ (x : Fm) (l : List Fm), (insF x l).length ≤ l.length + 1 := by
    intro x l
    induction l with
    | nil => simp [insF]
    | cons y l ih =>
      unfold insF
      split
      · simp
      · split
        · simp
        · simp only [List.length_cons]; omega
  induction gs with
  | nil => exact Nat.le_refl _
  | cons x gs ih =>
    show (insF x (setF gs)).length ≤ _
    have := this x (setF gs)
    simp only [List.length_cons]
    omega
theorem compact_nil (p : Option Addr) (c : Nat) (fv : Value) (w : World) : Calls Tryz.prog 128 #[.slice p 0 c, fv] w fun e w' => e = .returned (.slice p 0 c) ∧ w' = w := by
  go_enter Tryz.func128, Tryz.ntmps128
  go_wp2_with fail
  go_ret
  exact ⟨rfl, rfl⟩
set_option maxRecDepth 100000 in
set_option maxHeartbeats 2000000 in
theorem distinct_any {w : World} {base c n : Nat} {A : Option Addr} {gs : List Fm} {sl : List (Option Addr × Nat)} (h : FRow w base A c gs sl) (hn : n = gs.length) (hs : ∀ f, f ∈ gs → f.size ≤ 1000000) (hlen : gs.length ≤ 1000000) (hb : base ≤ w.heap.size) :
    Calls Tryz.prog 113 #[.slice A n c, .func (.func 114) #[] #[]] w fun e w' =>
      ∃ sl', e = .returned (.slice A (setF gs).length c) ∧ FRow w' base A c (setF gs) sl' ∧ Chg (fun x => (Value.slice A n c).ownBlock = some x) w w' := by
  subst hn
  have hmf : ∀ (fn : Fn) (first cap : Array Value) (w : World), (Instr.makeFunc fn first cap).run Tryz.prog w = .ok (.func fn first cap) w := fun _ _ _ _ => rfl
  have HR := hid h
  have HS := hid hs
  clear hs
  go_enter Tryz.func113, Tryz.ntmps113
  go_upto_region 1 with (fail)
  refine wp_gen fun W hW => ?_
  have HB := hid (show Below w.heap.size w W by rw [hW]; go_grown)
  have hc0 : W.cell? ⟨w.heap.size, 0, none⟩ = some (.func (.func 114) #[] #[]) := by rw [hW]; exact block_cell (at_new _ _ _ rfl) (i := 0) rfl
  have hwl : w.heap.size < W.heap.size := by rw [hW]; simp
  have HRW := hid (h.chg (Chg.of_new (V := fun _ => False) HB.out) fun _ h => h.elim)
  clear hW h
  rcases gs with _ | ⟨x, gs⟩
  · obtain ⟨p, c2, hv⟩ : ∃ p c2, A = p ∧ c = c2 := ⟨_, _, rfl, rfl⟩
    obtain ⟨rfl, rfl⟩ := hv
    have HL := hid HRW.out
    simp only [List.length_nil]
    go_wp2_with (first | (go_at_call 127; refine (sortfunc_nil _ _ _ _).mono ?_; rintro e w9 ⟨rfl, hw9⟩; rw [hw9]; clear hw9) | (go_at_call 128; refine (compact_nil _ _ _ _).mono ?_; rintro e w9 ⟨rfl, hw9⟩; rw [hw9]; clear hw9))
    go_ret
    exact ⟨sl, rfl, HL.out, Chg.of_new HB.out⟩
  · obtain ⟨g, rfl, hge⟩ := own_some HRW.out.own (by simp)
    have hgl := (HRW.out.ge rfl).2
    have hgw : g < w.heap.size := (HR.out.ge rfl).2
    have HSO := hid (sortfunc_any HRW.out rfl HS.out hlen)
    go_wp2_with (first | (go_at_call 127; refine HSO.out.mono ?_; rintro e w9 ⟨rfl, gs', sl', hperm, hsort, hrow, hchg⟩; have hc9 := (World.cell?_of_block (a := ⟨w.heap.size, 0, none⟩) (hchg.block w.heap.size hwl (by omega))).trans hc0; have hlp := hperm.length_eq; have hco := compact_any hrow hlp.symm (fun f hf => HS.out f (hperm.mem_iff.1 hf)) (by omega) hc9 (by omega)) | (go_at_call 128; refine hco.mono ?_; rintro e w10 ⟨rfl, ⟨sl2, hrow2⟩, hchg2⟩))
    go_ret
    have hset : dedF gs' = setF (x :: gs) := (dedF_asc hsort).set fun z => by rw [dedF_mem, hperm.mem_iff]
    rw [hset] at hrow2 ⊢
    exact ⟨sl2, rfl, hrow2, (Chg.of_new HB.out).trans' (hchg.trans hchg2) fun k hk h => by have : k = g := h; rw [this]; rfl⟩
end Go.Proofs.YtdakdpfofgkjoaaGreatDoor
