/-
  Walk of the law's reversed.
-/
import Derived.Test.YthdidjmmhhchmaaGreatDoorZKE
set_option linter.unusedVariables false
set_option linter.unusedSimpArgs false
namespace Go.Proofs.YthdidjmmhhchmaaGreatDoor
open Go.RowKit Go.Shelf
attribute [local go_sem] cell_alloc_old

def gthB (o : Int) : Bool := o == 5 || o == 6
theorem gth_iff (o : Int) : gthB o = true ↔ o = 5 ∨ o = 6 := by unfold gthB; simp
theorem turn_len (op : Int) (l : List Fm) : (turnL op l).length = l.length := by unfold turnL; split <;> simp
theorem turn_get {op : Int} {l : List Fm} {i : Nat} (hi : i < l.length) : (turnL op l).getD i default = l.getD (if gthB op = true then l.length - 1 - i else i) default := by
  unfold turnL
  by_cases h : gthB op = true
  · rw [if_pos ((gth_iff op).1 h), if_pos h]
    simp [List.getD_eq_getElem?_getD, List.getElem?_reverse hi]
  · rw [if_neg (fun e => h ((gth_iff op).2 e)), if_neg h]
/-- The arguments so far. -/
structure RevI (ob : Nat) (W : World) (o : Int) (n : ByteArray) (v b : Int) (made : List Fm) (wr : World) : Prop where
  bel : Below ob W wr
  ex : ∃ A c sl, OB wr ob o n v b A made.length c ∧ FRow wr (ob + 1) A c made sl
theorem rev_app {w5 wA w6 : World} {base ob c c6 k cc n N : Nat} {A A6 A' AA : Option Addr} {c' : Nat} {gs : List Fm} {sl : List (Option Addr × Nat)} {g : Fm} {o v b : Int} {nm : ByteArray} {zc : List Value}
    (hA : Chg (fun _ => False) w5 wA) (hr : FRow w5 base A c gs sl) (hn : n = gs.length) (hN : N = n + 1) (hz : zc = fcells g (A', c')) (hown : w6.ownsRow base 24 5 (.slice A6 N c6) N (cellsF gs sl ++ zc))
    (hg : wA.grownBy w6 (Value.slice A n c).ownBlock) (hblk : (Value.slice A6 N c6).ownBlock = (Value.slice A n c).ownBlock ∨ (Value.slice A6 N c6).ownBlock = some wA.heap.size)
    (ho : OB w5 ob o nm v b AA k cc) (hob : ob < base) (hf : RdA w5 (fun x => Nw base w5 x ∧ (Value.slice A gs.length c).ownBlock ≠ some x) g.args A' c') :
    FRow w6 base A6 c6 (gs ++ [g]) (sl ++ [(A', c')]) ∧ OB w6 ob o nm v b AA k cc ∧ Chg (fun x => base ≤ x) w5 w6 := by
  subst hn hN hz
  have hrA : FRow wA base A c gs sl := hr.chg hA fun _ h => h.elim
  have hne : ∀ x, x < base → some x ≠ (Value.slice A gs.length c).ownBlock := fun x hx e => by have := (hr.ge e.symm).1; omega
  have h1 : RdA wA (fun x => Nw base wA x ∧ (Value.slice A gs.length c).ownBlock ≠ some x) g.args A' c' := by
    have hk : Keeps (fun x => Nw base w5 x ∧ (Value.slice A gs.length c).ownBlock ≠ some x) w5 wA := hA.keeps fun _ _ _ h => h
    exact (hf.keep hk).mono fun x hx _ => ⟨⟨hx.1.1, hx.1.2.of_eq (hk.block x hx hx.1.2.lt)⟩, hx.2⟩
  have hr6 : FRow w6 base A6 c6 (gs ++ [g]) (sl ++ [(A', c')]) := hrA.app (n := gs.length + 1) (ms := [g]) (sm := [(A', c')]) hg (by simp) (by rw [show cellsF [g] [(A', c')] = fcells g (A', c') by simp [cellsF]]; exact hown) hblk rfl fun i hi => by
    obtain rfl : i = 0 := by simpa using hi
    exact h1
  have hch : Chg (fun x => base ≤ x) w5 w6 := (hA.mono fun _ _ h => h.elim).trans ⟨hg.os, hg.tape, hg.output, hg.size, fun x hx hnb => hg.block x hx (hne x (by omega))⟩
  exact ⟨hr6, ho.chg hch (by omega), hch⟩
theorem rev_step {ob N c6 k cc : Nat} {W w5 w6 : World} {o v b : Int} {nm : ByteArray} {A6 AA : Option Addr} {made : List Fm} {sl : List (Option Addr × Nat)} (hb : Below ob W w5) (hobl : ob ≤ w5.heap.size) (hc : Chg (fun x => ob + 1 ≤ x) w5 w6) (hr : FRow w6 (ob + 1) A6 c6 made sl)
    (ho : OB w6 ob o nm v b AA k cc) (hN : N = made.length) : RevI ob W o nm v b made (w6.setCell ⟨ob, 4, none⟩ (.slice A6 N c6)) := by
  subst hN
  have h4 : Chg (fun x => x = ob) w6 (w6.setCell ⟨ob, 4, none⟩ (.slice A6 made.length c6)) := (Chg.refl (fun x => x = ob) w6).set ⟨ob, 4, none⟩ _ fun _ => rfl
  have hb6 : Below ob W w6 := hb.trans (hc.below (B := ob) (fun x hx h => by omega) hobl)
  have hs6 : ob ≤ w6.heap.size := Nat.le_of_lt (lt_of_block ho)
  refine ⟨hb6.trans (h4.below (B := ob) (fun x hx h => by omega) hs6), A6, c6, sl, ?_, hr.chg h4 fun x h => by omega⟩
  unfold OB
  rw [set_block ho]
  rfl
/-- A row of the caller's own becomes the arguments of what is returned. -/
theorem rev_fin {w W wr WE : World} {rb ob m c2 : Nat} {A2 : Option Addr} {o v b : Int} {n : ByteArray} {G : List Fm} {sl : List (Option Addr × Nat)} (hB : Below w.heap.size w W) (hbel : Below ob W wr) (hrb : rb = w.heap.size + 1) (hob : ob = w.heap.size + 2)
    (ho : OB wr rb 0 ⟨#[]⟩ 0 0 none 0 0) (hr : FRow wr (ob + 1) A2 c2 G sl) (hm : m = G.length) (hn : m ≤ 1000000)
    (hWE : WE = (((((wr.setCell ⟨rb, 0, none⟩ (.int .i64 o)).setCell ⟨rb, 1, none⟩ (.string n)).setCell ⟨rb, 2, none⟩ (.int .i64 v)).setCell ⟨rb, 3, none⟩ (.int .i64 b)).setCell ⟨rb, 4, none⟩ (.slice A2 m c2))) :
    OB WE rb o n v b A2 m c2 ∧ NewF (.mk o n v b G) w (.agg #[.int .i64 o, .string n, .int .i64 v, .int .i64 b, .slice A2 m c2]) WE := by
  subst hm
  have hoE : OB WE rb o n v b A2 G.length c2 := by rw [hWE]; exact set5_OB ho
  have hcE : Chg (fun x => x = rb) wr WE := by rw [hWE]; exact set5_chg0 _ _ _ _ _ _ _
  have hbw : Below w.heap.size w wr := hB.trans (hbel.mono (show w.heap.size ≤ ob by omega))
  have hbE : Below w.heap.size w WE := hbw.trans (hcE.below (B := w.heap.size) (fun x hx h => by have : x = rb := h; omega) hbw.size)
  exact ⟨hoE, hbE, A2, c2, rfl, ((hr.rd (by omega)).nw hcE fun x h => by have : x = rb := h; omega).base (by omega)⟩
theorem RdA.litD {W : World} {D : Dom} {k n : Nat} {gs : List Fm} {sl : List (Option Addr × Nat)} {cs : Array Value} (hk : W.heap[k]? = some (.cells cs 24 (0, 0))) (hcs : cs.toList = cellsF gs sl) (hsl : sl.length = gs.length) (hn : n = gs.length) (hl : n ≤ 1000000) (hD : D k)
    (ha : ∀ i, i < gs.length → RdA W D (gs.getD i default).args (sl.getD i (none, 0)).1 (sl.getD i (none, 0)).2) : RdA W D gs (some ⟨k, 0, none⟩) n := by
  subst hn
  refine .mk gs _ _ sl hsl ⟨⟨cellsF_len hsl, by omega, Nat.le_refl _, by omega⟩, fun _ => ⟨k, 0, rfl, hD, lt_of_block hk, fun j u hu => ?_⟩⟩ ha
  rw [Nat.zero_add]
  refine block_cell hk ?_
  rw [← hcs] at hu
  simpa using hu
/-- The cells of one element of the row. -/
theorem row_five {w : World} {base g c : Nat} {gs : List Fm} {sl : List (Option Addr × Nat)} (h : FRow w base (some ⟨g, 0, none⟩) c gs sl) {q : Nat} (hq : q < gs.length) :
    (w.cell? ⟨g, q * 5, none⟩ = some (.int .i64 (gs.getD q default).op) ∧ w.cell? ⟨g, q * 5 + 1, none⟩ = some (.string (gs.getD q default).name) ∧ w.cell? ⟨g, q * 5 + 2, none⟩ = some (.int .i64 (gs.getD q default).val) ∧ w.cell? ⟨g, q * 5 + 3, none⟩ = some (.int .i64 (gs.getD q default).bound) ∧ w.cell? ⟨g, q * 5 + 4, none⟩ = some (.slice (sl.getD q (none, 0)).1 (gs.getD q default).args.length (sl.getD q (none, 0)).2)) ∧
    w.frozen? ⟨g, q * 5, none⟩ = false ∧ w.frozen? ⟨g, q * 5 + 1, none⟩ = false ∧ w.frozen? ⟨g, q * 5 + 2, none⟩ = false ∧ w.frozen? ⟨g, q * 5 + 3, none⟩ = false ∧ w.frozen? ⟨g, q * 5 + 4, none⟩ = false ∧ g < w.heap.size := by
  have a0 := own_cell h.own (j := q * 5 + 0) (by rw [cellsF_at h.len hq (by omega)]; rfl)
  have a1 := own_cell h.own (j := q * 5 + 1) (by rw [cellsF_at h.len hq (by omega)]; rfl)
  have a2 := own_cell h.own (j := q * 5 + 2) (by rw [cellsF_at h.len hq (by omega)]; rfl)
  have a3 := own_cell h.own (j := q * 5 + 3) (by rw [cellsF_at h.len hq (by omega)]; rfl)
  have a4 := own_cell h.own (j := q * 5 + 4) (by rw [cellsF_at h.len hq (by omega)]; rfl)
  exact ⟨⟨a0.1, a1.1, a2.1, a3.1, a4.1⟩, a0.2.1, a1.2.1, a2.2.1, a3.2.1, a4.2.1, a0.2.2⟩
/-- The last element becomes a node over itself, twice. -/
theorem rev_last {U U2 WF : World} {base g kb c q : Nat} {T : List Fm} {sl : List (Option Addr × Nat)} {op : Int} {As : Option Addr} {cs : Nat} {L : Fm} (hr : FRow U base (some ⟨g, 0, none⟩) c T sl) (hb : Below U.heap.size U U2) (hq : q < T.length) (hL : T.getD q default = L) (hs : sl.getD q (none, 0) = (As, cs))
    (hkb : U.heap.size ≤ kb) (hk : U2.heap[kb]? = some (.cells #[.int .i64 L.op, .string L.name, .int .i64 L.val, .int .i64 L.bound, .slice As L.args.length cs, .int .i64 L.op, .string L.name, .int .i64 L.val, .int .i64 L.bound, .slice As L.args.length cs] 24 (0, 0)))
    (hWF : WF = (((((U2.setCell ⟨g, q * 5, none⟩ (.int .i64 op)).setCell ⟨g, q * 5 + 1, none⟩ (.string ⟨#[]⟩)).setCell ⟨g, q * 5 + 2, none⟩ (.int .i64 0)).setCell ⟨g, q * 5 + 3, none⟩ (.int .i64 0)).setCell ⟨g, q * 5 + 4, none⟩ (.slice (some ⟨kb, 0, none⟩) 2 2))) :
    FRow WF base (some ⟨g, 0, none⟩) c (T.set q (opF op [L, L])) (sl.set q (some ⟨kb, 0, none⟩, 2)) ∧ Chg (fun x => x = g) U2 WF ∧ base ≤ g ∧ g < U.heap.size := by
  have hg : base ≤ g ∧ g < U.heap.size := hr.ge rfl
  have hkb1 : base ≤ kb := by have := hg.1; have := hg.2; omega
  have hkb2 : kb ≠ g := by have := hg.2; omega
  have hr2 : FRow U2 base (some ⟨g, 0, none⟩) c T sl := hr.chg (Chg.of_new (V := fun _ => False) hb) fun _ h => h.elim
  have ha : RdA U2 (fun k => Nw base U2 k ∧ k ≠ g) L.args As cs := by
    have := hr2.arg q hq
    rw [hL, hs] at this
    exact this.mono fun k hk _ => ⟨hk.1, fun e => hk.2 (by rw [e]; rfl)⟩
  have hl : RdA U2 (fun k => Nw base U2 k ∧ k ≠ g) [L, L] (some ⟨kb, 0, none⟩) 2 :=
    RdA.litD (sl := [(As, cs), (As, cs)]) hk rfl rfl rfl (by omega) ⟨⟨hkb1, _, _, hk⟩, hkb2⟩ fun i hi => by
      have : i = 0 ∨ i = 1 := by simp at hi; omega
      rcases this with rfl | rfl
      · exact ha
      · exact ha
  refine ⟨?_, ?_, hg.1, hg.2⟩
  · rw [hWF]
    exact hr2.set hq (opF op [L, L]) (some ⟨kb, 0, none⟩) 2 hl
  · rw [hWF]
    exact (((((Chg.refl (fun x => x = g) U2).set ⟨g, _, none⟩ _ fun _ => rfl).set ⟨g, _, none⟩ _ fun _ => rfl).set ⟨g, _, none⟩ _ fun _ => rfl).set ⟨g, _, none⟩ _ fun _ => rfl).set ⟨g, _, none⟩ _ fun _ => rfl
theorem OB.drewK {w : World} {ob : Nat} {o : Int} {n : ByteArray} {v b : Int} {A : Option Addr} {k c : Nat} (h : OB w ob o n v b A k c) : OB (World.drew w) ob o n v b A k c := h
theorem set5_chgq (w : World) (g j : Nat) (a b c d e : Value) : Chg (fun x => x = g) w (((((w.setCell ⟨g, j, none⟩ a).setCell ⟨g, j + 1, none⟩ b).setCell ⟨g, j + 2, none⟩ c).setCell ⟨g, j + 3, none⟩ d).setCell ⟨g, j + 4, none⟩ e) :=
  (((((Chg.refl (fun x => x = g) w).set ⟨g, _, none⟩ _ fun _ => rfl).set ⟨g, _, none⟩ _ fun _ => rfl).set ⟨g, _, none⟩ _ fun _ => rfl).set ⟨g, _, none⟩ _ fun _ => rfl).set ⟨g, _, none⟩ _ fun _ => rfl
theorem rev_S {W : World} {ob b1 b7 m c2 c : Nat} {g2 : Option Addr} {A : Option Addr} {f L : Fm} {As : Option Addr} {cs k k2 : Nat} (h1 : OB W ob f.op f.name f.val f.bound g2 m c2) (h2 : OB W b1 f.op f.name f.val f.bound A k c) (h3 : OB W b7 L.op L.name L.val L.bound As k2 cs) :
    W.cell? ⟨ob, 4, none⟩ = some (.slice g2 m c2) ∧ W.cell? ⟨b1, 0, none⟩ = some (.int .i64 f.op) ∧ W.cell? ⟨b7, 0, none⟩ = some (.int .i64 L.op) ∧ W.cell? ⟨b7, 1, none⟩ = some (.string L.name) ∧ W.cell? ⟨b7, 2, none⟩ = some (.int .i64 L.val) ∧ W.cell? ⟨b7, 3, none⟩ = some (.int .i64 L.bound) ∧ W.cell? ⟨b7, 4, none⟩ = some (.slice As k2 cs) :=
  ⟨h1.cells.2.2.2.2.1, h2.cells.1, h3.cells.1, h3.cells.2.1, h3.cells.2.2.1, h3.cells.2.2.2.1, h3.cells.2.2.2.2.1⟩
theorem set_last_tw {T : List Fm} {q : Nat} (hq : T.length = q + 1) (x : Fm) : T.take (T.length - 1) ++ [x] = T.set q x := by
  rw [hq, List.set_eq_take_append_cons_drop, if_pos (by omega), List.drop_of_length_le (by omega)]
  rfl
theorem revZ_args {f : Fm} : revZ f = .mk f.op f.name f.val f.bound (twL f.op (turnL f.op (f.args.map revZ))) := revZ_eq f
set_option maxRecDepth 100000 in
set_option maxHeartbeats 8000000 in
theorem reversed_any (f : Fm) : ∀ {D : Dom} (v : Value) (w : World) (ins : Bool) (h : RdF3 w D v f) (hb : allI bareQ ins f) (hz : f.size ≤ 1000000),
    Calls Tryz.prog 23 #[v] w fun e w' => ∃ kv, e = .returned kv ∧ NewF (revZ f) w kv w' := by
  refine Fm.induct (P := fun f => ∀ {D : Dom} (v : Value) (w : World) (ins : Bool) (h : RdF3 w D v f) (hb : allI bareQ ins f) (hz : f.size ≤ 1000000), Calls Tryz.prog 23 #[v] w fun e w' => ∃ kv, e = .returned kv ∧ NewF (revZ f) w kv w') ?_ f
  intro f ih D v w ins h hb hz
  have HIH := hid ih
  have HBARE := hid (show ∀ j, j < f.args.length → ∃ ins', allI bareQ ins' (f.args.getD j default) from fun j hj => ⟨_, (allI_iff.1 hb).2 _ (getD_memF hj)⟩)
  have HGE := hid (show gthB f.op = true → 2 ≤ f.args.length from fun hg => by
    have hs := (shp_out (bareQ_parts (allI_iff.1 hb).1).2.1).2.1
    rcases (gth_iff _).1 hg with e | e <;> rw [e] at hs <;> exact hs)
  have HLEN := hid (show f.args.length ≤ 1000000 by have := args_sizes f.args; have := Fm.size_eq f; omega)
  have HSZ := hid hz
  obtain ⟨A, c, rfl, ha⟩ := h
  have HA := hid ha.old
  have hal := ha.len.1
  clear ih ha hb hz
  go_enter Tryz.func23, Tryz.ntmps23
  go_upto_region 3 with (fail)
  refine wp_gen fun W hW => ?_
  have HB := hid (show Below w.heap.size w W by rw [hW]; go_grown)
  have HO1 := hid (show OB W w.heap.size f.op f.name f.val f.bound A f.args.length c by
    show W.heap[_]? = _
    rw [hW, at_old _ _ _ (by simp; omega), at_old _ _ _ (by simp)]; exact at_new _ _ _ rfl)
  have HO2 := hid (show OB W (w.heap.size + 1) 0 ⟨#[]⟩ 0 0 none 0 0 by
    show W.heap[_]? = _
    rw [hW, at_old _ _ _ (by simp)]; exact at_new _ _ _ (by simp))
  have HO3 := hid (show OB W (w.heap.size + 2) f.op f.name f.val f.bound none 0 0 by rw [hW]; exact at_new _ _ _ (by simp))
  have HWS := hid (show W.heap.size = w.heap.size + 3 by rw [hW]; simp)
  clear hW
  obtain ⟨b1, hb1⟩ : ∃ b1, b1 = w.heap.size := ⟨_, rfl⟩
  obtain ⟨rb, hrb⟩ : ∃ rb, rb = w.heap.size + 1 := ⟨_, rfl⟩
  obtain ⟨ob, hob⟩ : ∃ ob, ob = w.heap.size + 2 := ⟨_, rfl⟩
  rw [← hob] at HO3 ⊢
  rw [← hrb] at HO2 ⊢
  rw [← hb1] at HO1 ⊢
  have HN := hid (And.intro hb1 (And.intro hrb hob))
  clear hb1 hrb hob
  obtain ⟨x0, x1, x2, x3, x4, x5⟩ := HO1.out.cells
  rename_i K hK
  refine wp_tail K (4 :: List.range' 10 8) (fun us W' => us 4 = .bool (gthB f.op) ∧ W' = W) ?_ ?_
  rotate_left
  · intro HTAIL
    have HTL := hid HTAIL
    clear HTAIL hK
    by_cases k5 : f.op = 5
    · have e5 : (f.op == 5) = true := beq_iff_eq.2 k5
      have HR := hid (show gthB f.op = true by unfold gthB; rw [e5]; rfl)
      clear k5
      go_wp2_with fail
      refine tail_close HTL.out ⟨by rw [HR.out]; rfl, rfl⟩ ?_
      kernel_rfl
    have e5 : (f.op == 5) = false := beq_false_of k5
    by_cases k6 : f.op = 6
    · have e6 : (f.op == 6) = true := beq_iff_eq.2 k6
      have HR := hid (show gthB f.op = true by unfold gthB; rw [e6]; simp)
      clear k6
      go_wp2_with fail
      refine tail_close HTL.out ⟨by rw [HR.out]; rfl, rfl⟩ ?_
      kernel_rfl
    have e6 : (f.op == 6) = false := beq_false_of k6
    have HR := hid (show gthB f.op = false by unfold gthB; rw [e5, e6]; rfl)
    go_wp2_with fail
    refine tail_close HTL.out ⟨by rw [HR.out]; rfl, rfl⟩ ?_
    kernel_rfl
  rintro us W1 ⟨hu, hw⟩
  obtain rfl : W = W1 := hw.symm
  apply hK
  simp only [putAll, List.range', List.range'_succ, Act.put, List.setIfInBounds_toArray, List.set_cons_zero, List.set_cons_succ, Nat.reduceAdd]
  rw [hu]
  clear hK hu hw
  obtain ⟨gt, hgt⟩ : ∃ gt, gt = gthB f.op := ⟨_, rfl⟩
  rw [← hgt] at HGE ⊢
  obtain ⟨T, hT⟩ : ∃ T, T = turnL f.op (f.args.map revZ) := ⟨_, rfl⟩
  have HTG := hid (show ∀ i, i < f.args.length → T.getD i default = revZ (f.args.getD (if gt = true then f.args.length - 1 - i else i) default) from fun i hi => by
    have hl : (f.args.map revZ).length = f.args.length := List.length_map ..
    rw [hT, turn_get (by rw [hl]; exact hi), hl, ← hgt]
    have : (if gt = true then f.args.length - 1 - i else i) < f.args.length := by split <;> omega
    simp only [List.getD_eq_getElem?_getD, List.getElem?_map]
    rw [List.getElem?_eq_getElem this]
    rfl)
  have HTN := hid (show T.length = f.args.length by rw [hT, turn_len]; exact List.length_map ..)
  have HT := hid hT
  have HGT := hid hgt
  clear hT hgt
  go_wp2_with fail
  go_loopw [5] (fun q wr => ∃ i : Nat, i ≤ f.args.length ∧ q = .int .i64 (i : Int) ∧ RevI ob W f.op f.name f.val f.bound (T.take i) wr) (fun q _ => f.args.length - (intOf q).toNat)
  case atStart => exact ⟨0, Nat.zero_le _, rfl, ⟨Below.refl _ _, none, 0, [], by simpa using HO3.out, by simpa using FRow.nil _ _⟩⟩
  case round =>
    obtain ⟨i, hi, rfl, hI⟩ := hrel
    obtain ⟨hbel, A2, c2, sl, ho, hr⟩ := hI
    have HBEL := hid hbel
    have HO := hid ho
    have HR := hid hr
    have HO1R := hid (show OB wr b1 f.op f.name f.val f.bound A f.args.length c from (hbel.block _ (by have := HN.out; omega)).trans HO1.out)
    clear hbel ho hr x0 x1 x2 x3 x4 x5
    by_cases hlt : i < f.args.length
    · have hii : (i : Int) < f.args.length := by omega
      obtain ⟨gs, hgs⟩ : ∃ gs, gs = T.take i := ⟨_, rfl⟩
      rw [← hgs] at HO HR
      have hgl : gs.length = i := by rw [hgs, List.length_take, HTN.out]; omega
      obtain ⟨k, hk⟩ : ∃ k, k = (if gt = true then f.args.length - 1 - i else i) := ⟨_, rfl⟩
      have hkl : k < f.args.length := by rw [hk]; split <;> omega
      have htk := HTG.out i hlt
      rw [← hk] at htk
      have HBW := hid (HB.out.trans (HBEL.out.mono (by have := HN.out; omega)))
      obtain ⟨b, o, A', c', g, rfl, HX, hg⟩ := (HA.out.keep (Keeps.of_below HBW.out fun _ h => h)).get hkl
      rw [HX.out] at htk
      obtain ⟨r, hr⟩ : ∃ r, r = revZ g := ⟨_, rfl⟩
      rw [← hr] at htk
      have HNEXT := hid (show T.take (i + 1) = gs ++ [r] by rw [take_succ_getD T default (by rw [HTN.out]; exact hlt), htk, hgs])
      have HCALL : Hid (∀ W', Below wr.heap.size wr W' → Calls Tryz.prog 23 #[.agg #[.int .i64 g.op, .string g.name, .int .i64 g.val, .int .i64 g.bound, .slice A' g.args.length c']] W' fun e w5 =>
          ∃ A5 c5, e = .returned (.agg #[.int .i64 r.op, .string r.name, .int .i64 r.val, .int .i64 r.bound, .slice A5 r.args.length c5]) ∧ Below wr.heap.size wr w5 ∧ OB w5 ob f.op f.name f.val f.bound A2 gs.length c2 ∧ FRow w5 (ob + 1) A2 c2 gs sl ∧
            RdA w5 (fun x => Nw (ob + 1) w5 x ∧ (Value.slice A2 gs.length c2).ownBlock ≠ some x) r.args A5 c5) := hid fun W' hb' => by
        obtain ⟨ins', hbare⟩ := HBARE.out k hkl
        have hsz : (f.args.getD k default).size ≤ 1000000 := by have := arg_size hkl; have := HSZ.out; omega
        refine (HIH.out k hkl (D := (· < w.heap.size)) _ W' ins' (by rw [HX.out]; exact ⟨A', c', rfl, hg.args.keep (Keeps.of_below (hb'.mono (HBW.out.size)) fun _ h => h)⟩) hbare hsz).mono ?_
        rw [HX.out, ← hr]
        rintro e w5 ⟨kv, rfl, hnb, A5, c5, rfl, ha5⟩
        have hb5 := hb'.trans (hnb.mono hb'.size)
        refine ⟨A5, c5, rfl, hb5, HO.out.below hb5, HR.out.chg (Chg.of_new (V := fun _ => False) hb5) fun _ h => h.elim, ha5.mono fun x hx _ => ⟨⟨?_, hx.2⟩, fun e => ?_⟩⟩
        · have := lt_of_block HO.out
          have := hb'.size
          have := hx.1
          omega
        · have := (HR.out.ge e).2
          have := hb'.size
          have := hx.1
          omega
      obtain ⟨gd, gl, g0, g1, g2, g3, g4, ga⟩ := hg
      have HKK := hid hk
      have HKL := hid hkl
      clear htk hgs hr ga hk
      obtain ⟨x0, x1, x2, x3, x4, x5⟩ := HO1R.out.cells
      obtain ⟨y0, y1, y2, y3, y4, y5⟩ := HO.out.cells
      obtain ⟨i0, hti, hz0, hz1, hz2⟩ := info_parts formula_info
      have hgl1 : (gs.length : Int) < (gs.length : Int) + 1 := by omega
      have HGL := hid hgl
      have hgm : gs.length ≤ 1000000 := by have := HLEN.out; omega
      clear x0 x1 x2 x3 y0 y1 y2 y3 hgl
      cases gt
      · have hki : k = i := by rw [HKK.out]; rfl
        have HKI := hid hki
        obtain rfl : i = k := hki.symm
        have hkk : (i : Int) < f.args.length := by omega
        --<<
        go_upto_region 10 with (fail)
        rename_i K32 hK32
        refine wp_tail K32 (List.range' 33 11) (fun us W' => RevI ob W f.op f.name f.val f.bound (gs ++ [r]) W') ?_ ?_
        · intro us6 W32 hI32
          apply hK32
          simp only [putAll, List.range', List.range'_succ, Act.put, List.setIfInBounds_toArray, List.set_cons_zero, List.set_cons_succ, Nat.reduceAdd]
          clear hK32 x4 y4
          go_wp2_with fail
          go_roundw
          case rel => exact ⟨i + 1, by omega, by go_num, by rw [HNEXT.out]; exact hI32⟩
          case measure => simp [intOf]; omega
        intro HTAIL
        have HTL := hid HTAIL
        clear HTAIL hK32
        go_region_law (first | (refine step_append_rd _ (by rfl) _ _ 22 (by rfl) (ob + 1) 24 i0 _ 5 64 Tryz.underlying22 hti hz0 hz1 hz2 rfl (by omega) (.slice A2 gs.length c2) gs.length (cellsF gs sl) (by rfl) (by first | exact (hr5.alloc _).own | exact (hr5.alloc _).drew.own) _ (some ⟨w5.heap.size, 0, none⟩) 1 1 (fcells r (A5, c5)) (by rfl) (by first | exact Rd.fresh (D := AnyD) rfl trivial rfl (by omega) | exact Rd.freshD (D := AnyD) rfl trivial rfl (by omega)) (by simp [fcells, Value.oneCell']) (by omega) (maxLen_le (by omega)) (by have := lt_of_block ho5; simp; omega) ?_; intro A6 c6 w6 hown hg6 hblk; obtain ⟨hr6, ho6, hc6⟩ := rev_app (w5 := w5) (by first | exact (Chg.refl _ _).alloc _ | exact ((Chg.refl _ _).alloc _).drew) hr5 rfl rfl rfl hown hg6 hblk ho5 (Nat.lt_succ_self _) hf5; have q54 := block_cell ho6 (i := 4) rfl; have p54 := ho6.free 4; have l54 := lt_of_block ho6) | (go_simp; go_at_call 23; (with_reducible refine (HCALL.out _ (by first | exact Below.refl _ _ | exact (Below.refl _ _).drew | go_grown)).mono ?_); rintro e w5 ⟨A5, c5, rfl, hb5, ho5, hr5, hf5⟩; have q4 := block_cell ho5 (i := 4) rfl; have ql := lt_of_block ho5))
        all_goals
          show K32 _ _
          refine K_gen fun WF hWF => ?_
          have hfin : RevI ob W f.op f.name f.val f.bound (gs ++ [r]) WF := by
            rw [hWF]
            exact rev_step (HBEL.out.trans (hb5.mono (Nat.le_of_lt (lt_of_block HO.out)))) (Nat.le_of_lt (lt_of_block ho5)) hc6 hr6 ho6 (by simp)
          clear hWF
          refine tail_close HTL.out hfin ?_
          kernel_rfl
        -->>
      · have hki : k = f.args.length - 1 - i := by rw [HKK.out]; rfl
        have hkk : (f.args.length : Int) - 1 - (i : Int) = (k : Int) := by omega
        have hki2 : (k : Int) < f.args.length := by omega
        have HKI := hid hki
        clear hki
        --<<
        go_upto_region 10 with (fail)
        rename_i K32 hK32
        refine wp_tail K32 (List.range' 33 11) (fun us W' => RevI ob W f.op f.name f.val f.bound (gs ++ [r]) W') ?_ ?_
        · intro us6 W32 hI32
          apply hK32
          simp only [putAll, List.range', List.range'_succ, Act.put, List.setIfInBounds_toArray, List.set_cons_zero, List.set_cons_succ, Nat.reduceAdd]
          clear hK32 x4 y4
          go_wp2_with fail
          go_roundw
          case rel => exact ⟨i + 1, by omega, by go_num, by rw [HNEXT.out]; exact hI32⟩
          case measure => simp [intOf]; omega
        intro HTAIL
        have HTL := hid HTAIL
        clear HTAIL hK32
        go_region_law (first | (refine step_append_rd _ (by rfl) _ _ 22 (by rfl) (ob + 1) 24 i0 _ 5 64 Tryz.underlying22 hti hz0 hz1 hz2 rfl (by omega) (.slice A2 gs.length c2) gs.length (cellsF gs sl) (by rfl) (by first | exact (hr5.alloc _).own | exact (hr5.alloc _).drew.own) _ (some ⟨w5.heap.size, 0, none⟩) 1 1 (fcells r (A5, c5)) (by rfl) (by first | exact Rd.fresh (D := AnyD) rfl trivial rfl (by omega) | exact Rd.freshD (D := AnyD) rfl trivial rfl (by omega)) (by simp [fcells, Value.oneCell']) (by omega) (maxLen_le (by omega)) (by have := lt_of_block ho5; simp; omega) ?_; intro A6 c6 w6 hown hg6 hblk; obtain ⟨hr6, ho6, hc6⟩ := rev_app (w5 := w5) (by first | exact (Chg.refl _ _).alloc _ | exact ((Chg.refl _ _).alloc _).drew) hr5 rfl rfl rfl hown hg6 hblk ho5 (Nat.lt_succ_self _) hf5; have q54 := block_cell ho6 (i := 4) rfl; have p54 := ho6.free 4; have l54 := lt_of_block ho6) | (go_simp; go_at_call 23; (with_reducible refine (HCALL.out _ (by first | exact Below.refl _ _ | exact (Below.refl _ _).drew | go_grown)).mono ?_); rintro e w5 ⟨A5, c5, rfl, hb5, ho5, hr5, hf5⟩; have q4 := block_cell ho5 (i := 4) rfl; have ql := lt_of_block ho5))
        all_goals
          show K32 _ _
          refine K_gen fun WF hWF => ?_
          have hfin : RevI ob W f.op f.name f.val f.bound (gs ++ [r]) WF := by
            rw [hWF]
            exact rev_step (HBEL.out.trans (hb5.mono (Nat.le_of_lt (lt_of_block HO.out)))) (Nat.le_of_lt (lt_of_block ho5)) hc6 hr6 ho6 (by simp)
          clear hWF
          refine tail_close HTL.out hfin ?_
          kernel_rfl
        -->>
    · have hii : ¬ (i : Int) < f.args.length := by omega
      have hin : i = f.args.length := by omega
      have htt : T.take i = T := List.take_of_length_le (by rw [HTN.out]; omega)
      rw [htt] at HO HR
      have htn : T.length = f.args.length := HTN.out
      have HTLEN := hid htn
      have HBW := hid (HB.out.trans (HBEL.out.mono (by have := HN.out; omega)))
      have HO2R := hid (show OB wr rb 0 ⟨#[]⟩ 0 0 none 0 0 from (HBEL.out.block _ (by have := HN.out; omega)).trans HO2.out)
      obtain ⟨m, hm⟩ : ∃ m, m = T.length := ⟨_, rfl⟩
      rw [← hm] at HO
      have HMT := hid hm
      have HML := hid (show m = f.args.length by rw [hm]; exact htn)
      clear htt htn hm hin
      obtain ⟨x0, x1, x2, x3, x4, x5⟩ := HO1R.out.cells
      obtain ⟨y0, y1, y2, y3, y4, y5⟩ := HO.out.cells
      obtain ⟨r0, r1, r2, r3, r4, rl⟩ := HO2R.out.cells
      have p0 := HO2R.out.free 0
      have p1 := HO2R.out.free 1
      have p2 := HO2R.out.free 2
      have p3 := HO2R.out.free 3
      have p4 := HO2R.out.free 4
      cases gt
      · have HTW := hid (show revZ f = .mk f.op f.name f.val f.bound T by
          have hg : ¬ (f.op = 5 ∨ f.op = 6) := fun e => by have := (gth_iff _).2 e; rw [← HGT.out] at this; cases this
          rw [revZ_args, ← HT.out]
          unfold twL
          rw [if_neg fun e => hg e.1])
        --<<
        go_wp2_with fail
        refine bodyPost_gen fun WE hWE => ?_
        obtain ⟨hoE, hnE⟩ := rev_fin HB.out HBEL.out HN.out.2.1 HN.out.2.2 HO2R.out HR.out HMT.out (by have := HML.out; have := HLEN.out; omega) hWE
        obtain ⟨z0, z1, z2, z3, z4, zl⟩ := hoE.cells
        clear hWE r0 r1 r2 r3 r4 p0 p1 p2 p3 p4 x0 x1 x2 x3 x4 y0 y1 y2 y3 y4
        rw [← HTW.out] at hnE
        exact bodyPost_ret (v := .agg #[.int .i64 f.op, .string f.name, .int .i64 f.val, .int .i64 f.bound, .slice A2 m c2]) (by simp [results, Tryz.results23, go_sem, z0, z1, z2, z3, z4]) rfl ⟨_, rfl, hnE⟩
        -->>
      · by_cases h4 : f.args.length ≤ 4
        · have h4i : (f.args.length : Int) ≤ 4 := by omega
          have d4 : decide ((f.args.length : Int) ≤ 4) = true := decide_eq_true h4i
          have hge := HGE.out rfl
          obtain ⟨q, rfl⟩ : ∃ q, m = q + 1 := ⟨m - 1, by have := HML.out; omega⟩
          have hTq : T.length = q + 1 := by rw [HTLEN.out, ← HML.out]
          have hq5 : q + 1 ≤ 4 := by have := HML.out; omega
          have hwq : IntKind.i64.wrap ((q : Int) + 1 - 1) = (q : Int) := by rw [show (q : Int) + 1 - 1 = (q : Int) by omega]; exact IntWalk.i64_in _ (by omega)
          have hwq2 : IntKind.i64.wrap (q : Int) = (q : Int) := IntWalk.i64_in _ (by omega)
          have hwq3 : wrap64 ((q : Int) + 1 - 1) = (q : Int) := (IntWalk.i64_left _).symm.trans hwq
          have hq0 : (0 : Int) ≤ (q : Int) := by omega
          have hq1 : (0 : Int) ≤ (q : Int) + 1 := by omega
          have hqm : (q : Int) < (q : Int) + 1 := by omega
          obtain ⟨L, hL⟩ : ∃ L, T.getD q default = L := ⟨_, rfl⟩
          obtain ⟨⟨As, cs⟩, hs⟩ : ∃ s, sl.getD q (none, 0) = s := ⟨_, rfl⟩
          have HTW := hid (show revZ f = .mk f.op f.name f.val f.bound (T.set q (opF f.op [L, L])) by
            rw [revZ_args, ← HT.out]
            unfold twL
            rw [if_pos ⟨(gth_iff _).1 HGT.out.symm, by rw [HTLEN.out]; exact h4⟩, show T.length - 1 = q by omega, hL]
            have := set_last_tw hTq (opF f.op [L, L])
            rw [show T.length - 1 = q by omega] at this
            rw [this])
          obtain ⟨g2, rfl, hgb⟩ := own_some HR.out.own (by omega)
          obtain ⟨⟨t0, t1, t2, t3, t4⟩, u0, u1, u2, u3, u4, tl⟩ := row_five HR.out (q := q) (by omega)
          rw [hL, hs] at t4
          rw [hL] at t0 t1 t2 t3
          have HTQ := hid hTq
          have HL := hid hL
          have HS := hid hs
          clear hTq hL hs h4 hge
          go_upto_region 13 with (fail)
          refine wp_gen fun U hU => ?_
          have HUB := hid (show Below wr.heap.size wr U by rw [hU]; go_grown)
          have HO7 := hid (show OB U wr.heap.size L.op L.name L.val L.bound As L.args.length cs by rw [hU]; exact at_new _ _ _ rfl)
          obtain ⟨b7, hb7⟩ : ∃ b7, b7 = wr.heap.size := ⟨_, rfl⟩
          rw [← hb7] at HO7 ⊢
          have HRU := hid (show FRow U (ob + 1) (some ⟨g2, 0, none⟩) c2 T sl from HR.out.chg (Chg.of_new (V := fun _ => False) HUB.out) fun _ h => h.elim)
          have HOU := hid (HO.out.below HUB.out)
          have HO1U := hid (HO1R.out.below HUB.out)
          have HO2U := hid (HO2R.out.below HUB.out)
          have HBU := hid (show Below ob W U from HBEL.out.trans (HUB.out.mono (Nat.le_of_lt (lt_of_block HO.out))))
          have HGE2 := hid (show ob + 1 ≤ g2 ∧ g2 < U.heap.size from HRU.out.ge rfl)
          have HGW := hid (show g2 < wr.heap.size from (HR.out.ge rfl).2)
          have HB7 := hid hb7
          clear hU hb7 x0 x1 x2 x3 x4 x5 y0 y1 y2 y3 y4 y5 r0 r1 r2 r3 r4 rl p0 p1 p2 p3 p4 t0 t1 t2 t3 t4 u0 u1 u2 u3 u4 tl
          rename_i K32 hK32
          refine wp_tail K32 (List.range' 59 13) (fun us W' => ∃ sl', OB W' ob f.op f.name f.val f.bound (some ⟨g2, 0, none⟩) (q + 1) c2 ∧ FRow W' (ob + 1) (some ⟨g2, 0, none⟩) c2 (T.set q (opF f.op [L, L])) sl' ∧ Below ob W W' ∧ OB W' rb 0 ⟨#[]⟩ 0 0 none 0 0) ?_ ?_
          · rintro us6 W32 ⟨sl', ho', hr', hb', hrb'⟩
            apply hK32
            simp only [putAll, List.range', List.range'_succ, Act.put, List.setIfInBounds_toArray, List.set_cons_zero, List.set_cons_succ, Nat.reduceAdd]
            clear hK32
            obtain ⟨y0, y1, y2, y3, y4, y5⟩ := ho'.cells
            obtain ⟨r0, r1, r2, r3, r4, rl⟩ := hrb'.cells
            have p0 := hrb'.free 0
            have p1 := hrb'.free 1
            have p2 := hrb'.free 2
            have p3 := hrb'.free 3
            have p4 := hrb'.free 4
            have HR' := hid hr'
            have HB' := hid hb'
            have HRB' := hid hrb'
            clear hr' hb' hrb' ho'
            go_wp2_with fail
            refine bodyPost_gen fun WE hWE => ?_
            obtain ⟨hoE, hnE⟩ := rev_fin HB.out HB'.out HN.out.2.1 HN.out.2.2 HRB'.out HR'.out (by rw [List.length_set]; exact HMT.out) (by have := HML.out; have := HLEN.out; omega) hWE
            obtain ⟨z0, z1, z2, z3, z4, zl⟩ := hoE.cells
            clear hWE r0 r1 r2 r3 r4 p0 p1 p2 p3 p4 y0 y1 y2 y3 y4
            rw [← HTW.out] at hnE
            exact bodyPost_ret (v := .agg #[.int .i64 f.op, .string f.name, .int .i64 f.val, .int .i64 f.bound, .slice (some ⟨g2, 0, none⟩) (q + 1) c2]) (by simp [results, Tryz.results23, go_sem, z0, z1, z2, z3, z4]) rfl ⟨_, rfl, hnE⟩
          intro HTAIL
          have HTL := hid HTAIL
          clear HTAIL hK32
          have hll := lt_of_block HOU.out
          obtain ⟨s0, s1, s2, s3, s4, s5, s6⟩ := rev_S HOU.out HO1U.out HO7.out
          have s7 := lt_of_block HO1U.out
          have s8 := lt_of_block HO7.out
          go_region_held3 (fun W' : World => W'.cell? ⟨ob, 4, none⟩ = some (.slice (some ⟨g2, 0, none⟩) (q + 1) c2) ∧ W'.cell? ⟨b1, 0, none⟩ = some (.int .i64 f.op) ∧ W'.cell? ⟨b7, 0, none⟩ = some (.int .i64 L.op) ∧ W'.cell? ⟨b7, 1, none⟩ = some (.string L.name) ∧ W'.cell? ⟨b7, 2, none⟩ = some (.int .i64 L.val) ∧ W'.cell? ⟨b7, 3, none⟩ = some (.int .i64 L.bound) ∧ W'.cell? ⟨b7, 4, none⟩ = some (.slice As L.args.length cs))
            (first | (with_reducible exact rev_S HOU.out.drewK HO1U.out.drewK HO7.out.drewK) | (go_keep; done) | (with_reducible exact rev_S HOU.out HO1U.out HO7.out) | (exact rev_S (HOU.out.chg (set5_chgq _ _ _ _ _ _ _ _) HNE.out.1) (HO1U.out.chg (set5_chgq _ _ _ _ _ _ _ _) HNE.out.2.1) (HO7.out.chg (set5_chgq _ _ _ _ _ _ _ _) HNE.out.2.2)))
            ((go_at_call 59; (with_reducible refine (rop_any _ _ _ _ _).mono ?_); rintro e U2 ⟨rfl, hb2⟩; have hbu : Below U.heap.size U U2 := belNx (by first | exact Below.refl _ _ | go_grown) hb2; have HLIT := hid (show U2.heap[U.heap.size]? = some (.cells #[.int .i64 L.op, .string L.name, .int .i64 L.val, .int .i64 L.bound, .slice As L.args.length cs, .int .i64 L.op, .string L.name, .int .i64 L.val, .int .i64 L.bound, .slice As L.args.length cs] 24 (0, 0)) from (hb2.block U.heap.size (by simp)).trans (at_new _ _ U.heap.size rfl)); obtain ⟨⟨t0, t1, t2, t3, t4⟩, u0, u1, u2, u3, u4, tl⟩ := row_five (HRU.out.chg (Chg.of_new (V := fun _ => False) hbu) fun _ h => h.elim) (q := q) (by have := HTQ.out; omega); replace HOU := hid (HOU.out.below hbu); replace HO1U := hid (HO1U.out.below hbu); replace HO7 := hid (HO7.out.below hbu); replace HO2U := hid (HO2U.out.below hbu); have HBU2 := hid hbu; have HNE := hid (show ob ≠ g2 ∧ b1 ≠ g2 ∧ b7 ≠ g2 by have := HGE2.out; have := HN.out; have := HB7.out; have := HGW.out; omega); obtain ⟨n1, n2, n3⟩ := HNE.out; have n1' := n1.symm; have n2' := n2.symm; have n3' := n3.symm; clear s0 s1 s2 s3 s4 s5 s6; obtain ⟨s0, s1, s2, s3, s4, s5, s6⟩ := rev_S HOU.out HO1U.out HO7.out))
          all_goals
            show K32 _ _
            refine K_gen fun WF hWF => ?_
            obtain ⟨hfr, hch, hge2, hlt2⟩ := rev_last (kb := U.heap.size) HRU.out HBU2.out (by have := HTQ.out; omega) HL.out HS.out (Nat.le_refl _) HLIT.out hWF
            have hbf : Below ob W WF := (HBU.out.trans (HBU2.out.mono (Nat.le_of_lt hll))).trans (hch.below (B := ob) (fun x hx h => by have : x = g2 := h; omega) (Nat.le_of_lt (lt_of_block HOU.out)))
            have hof := HOU.out.chg hch HNE.out.1
            have h2f := HO2U.out.chg hch (show rb ≠ g2 by have := HN.out; omega)
            clear hWF
            refine tail_close HTL.out ⟨_, hof, hfr, hbf, h2f⟩ ?_
            kernel_rfl
        · have h4i : ¬ (f.args.length : Int) ≤ 4 := by omega
          have d4 : decide ((f.args.length : Int) ≤ 4) = false := decide_eq_false h4i
          have HTW := hid (show revZ f = .mk f.op f.name f.val f.bound T by
            rw [revZ_args, ← HT.out]
            unfold twL
            rw [if_neg fun e => h4 (by rw [← HTLEN.out]; exact e.2)])
          clear h4
          go_wp2_with fail
          refine bodyPost_gen fun WE hWE => ?_
          obtain ⟨hoE, hnE⟩ := rev_fin HB.out HBEL.out HN.out.2.1 HN.out.2.2 HO2R.out HR.out HMT.out (by have := HML.out; have := HLEN.out; omega) hWE
          obtain ⟨z0, z1, z2, z3, z4, zl⟩ := hoE.cells
          clear hWE r0 r1 r2 r3 r4 p0 p1 p2 p3 p4 x0 x1 x2 x3 x4 y0 y1 y2 y3 y4
          rw [← HTW.out] at hnE
          exact bodyPost_ret (v := .agg #[.int .i64 f.op, .string f.name, .int .i64 f.val, .int .i64 f.bound, .slice A2 m c2]) (by simp [results, Tryz.results23, go_sem, z0, z1, z2, z3, z4]) rfl ⟨_, rfl, hnE⟩
end Go.Proofs.YthdidjmmhhchmaaGreatDoor
