/-
  Walk of open.
  Setting the block numbers of listed states; rows of states; plain.
  Walk of cut.
  Dividing a partition by the states that lead to some targets; plain.
  What leads to the targets, block by block; the blocks are divided one after the other; plain.
-/
import Derived.Test.YtcmhginhfhiolaaZ21
import Derived.Test.YtcmhginhfhiolaaZ09
set_option linter.unusedVariables false
set_option linter.unusedSimpArgs false
namespace Go.Proofs.Ytcmhginhfhiolaa
open Go.RowKit
attribute [local go_sem] cell_alloc_old

theorem int_info2 : (Try.prog.info? 3).map (fun i => (i.zero, i.size, i.bytes)) = some (some (.int .i64 0), 1, 8) := by kernel_rfl
theorem row_info2 : (Try.prog.info? 34).map (fun i => (i.zero, i.size, i.bytes)) = some (some (.slice none 0 0), 1, 24) := by kernel_rfl
theorem bool_info2 : (Try.prog.info? 4).map (fun i => (i.zero, i.size, i.bytes)) = some (some (.bool false), 1, 1) := by kernel_rfl
def OpenSays (B pb : Nat) (Q : PTA) (bl : List Int) (vm : List Value) (wq : List Int) (wts : List Bool) (w : World) (e : Ending) (w' : World) : Prop :=
  ∃ Q', e = .returned (.int .i64 (vm.length : Int)) ∧ PtB B w' pb Q' bl (vm ++ [.slice none 0 0]) (wq ++ [(vm.length : Int)]) (wts ++ [true]) ∧ PtS pb Q Q' w w' ∧ Q'.ab = Q.ab ∧ Q'.cb = Q.cb

set_option maxRecDepth 100000 in
set_option maxHeartbeats 4000000 in
theorem open_any (B pb : Nat) (Q : PTA) (bl : List Int) (vm : List Value) (wq : List Int) (wts : List Bool) (w : World) (h : PtB B w pb Q bl vm wq wts) (hB : B ≤ w.heap.size) (h1 : vm.length ≤ 100000) (h2 : wq.length ≤ 1000000) (h3 : wts.length ≤ 100000) :
    Calls Try.prog 56 #[.pointer (some ⟨pb, 0, none⟩)] w (OpenSays B pb Q bl vm wq wts w) := by
  obtain ⟨i0, hti, hz0, hz1, hz2⟩ := info_parts int_info2
  obtain ⟨i1, htr, hy0, hy1, hy2⟩ := info_parts row_info2
  obtain ⟨i2, htb, hx0, hx1, hx2⟩ := info_parts bool_info2
  have H0 := hid h
  obtain ⟨x0, x1, x2, x3, x4, xl, f1, f3, f4⟩ := h.cells
  clear h
  go_enter Try.func56, Try.ntmps56
  go_upto_region 3 with (at_builtin; go_must (refine wpList_append_rd _ rfl (.tmp 13) (.tmp 14) 22 rfl B 34 i1 _ 1 24 Try.underlying22 htr hy0 hy1 hy2 rfl (by omega) (.slice Q.am vm.length Q.cm) vm.length _ rfl (H0.out.mo.alloc _) _ (some ⟨w.heap.size, 0, none⟩) 1 1 _ rfl (Rd.cell1 (cell_new w _ _ _ _ _ rfl rfl)) (by simp [Value.oneCell']) (by omega) (maxLen_le (by omega)) (by simp; omega) ?_); intro A5 c5 w5 hown5 hg5 hat5; rw [own_slice] at hg5 hat5; rw [own_slice] at hat5; have e5c := ((H0.out.later (by go_grown)).grow (H0.out.later (by go_grown)).nm hg5 0 undef).2; have e5d := block_cell e5c (i := 1) rfl; have e5f := block_free e5c (i := 1))
  refine wp_gen fun W1 hW1 => ?_
  obtain ⟨P1, S1⟩ : PtB B W1 pb { Q with am := A5, cm := c5 } bl (vm ++ [.slice none 0 0]) wq wts ∧ PtS pb Q { Q with am := A5, cm := c5 } w W1 := by
    have h0 := H0.out.later (w' := w.alloc (.cells #[.slice none 0 0] 34)) (by go_grown)
    have := h0.pushM hg5 hown5 hat5
    rw [hW1]
    exact ⟨this.1, (PtS.of_below pb Q (by go_grown)).trans this.2⟩
  have H1 := hid P1
  have HS1 := hid S1
  obtain ⟨x0, x1, x2, x3, x4, xl, f1, f3, f4⟩ := P1.cells
  have hB1 := S1.chg.size
  clear hW1 P1 S1 hown5 hg5 hat5 e5c e5d e5f
  go_upto_region 4 with (at_builtin; go_must (refine wpList_append_rd _ rfl (.tmp 22) (.tmp 23) 41 rfl B 4 i2 _ 1 1 Try.underlying41 htb hx0 hx1 hx2 rfl (by omega) (.slice Q.ak wts.length Q.ct) wts.length _ rfl (H1.out.two.alloc _) _ (some ⟨W1.heap.size, 0, none⟩) 1 1 _ rfl (Rd.cell1 (cell_new W1 _ _ _ _ _ rfl rfl)) (by simp [Value.oneCell']) (by omega) (maxLen_le (by omega)) (by simp; omega) ?_); intro A6 c6 w6 hown6 hg6 hat6; rw [own_slice] at hg6 hat6; rw [own_slice] at hat6; have e6c := ((H1.out.later (by go_grown)).grow (H1.out.later (by go_grown)).nk hg6 0 undef).2; have e6d := block_cell e6c (i := 4) rfl; have e6f := block_free e6c (i := 4))
  refine wp_gen fun W2 hW2 => ?_
  obtain ⟨P2, S2⟩ : PtB B W2 pb { Q with am := A5, cm := c5, ak := A6, ct := c6 } bl (vm ++ [.slice none 0 0]) wq (wts ++ [true]) ∧ PtS pb Q { Q with am := A5, cm := c5, ak := A6, ct := c6 } w W2 := by
    have h0 := H1.out.later (w' := W1.alloc (.cells #[.bool true] 4)) (by go_grown)
    have := h0.pushK (t := true) hg6 (by rw [List.map_append]; exact hown6) hat6
    rw [hW2]
    exact ⟨this.1, (HS1.out.trans (PtS.of_below pb _ (by go_grown))).trans this.2⟩
  have H2 := hid P2
  have HS2 := hid S2
  obtain ⟨x0, x1, x2, x3, x4, xl, f1, f3, f4⟩ := P2.cells
  have hB2 := S2.chg.size
  clear hW2 P2 S2 hown6 hg6 hat6 e6c e6d e6f
  go_upto_region 5 with (at_builtin; go_must (refine wpList_append_rd _ rfl (.tmp 31) (.tmp 33) 34 rfl B 3 i0 _ 1 8 Try.underlying34 hti hz0 hz1 hz2 rfl (by omega) (.slice Q.aw wq.length Q.cw) wq.length _ rfl (H2.out.wo.alloc _) _ (some ⟨W2.heap.size, 0, none⟩) 1 1 _ rfl (Rd.cell1 (cell_new W2 _ _ _ _ _ rfl rfl)) (by simp [Value.oneCell']) (by omega) (maxLen_le (by omega)) (by simp; omega) ?_); intro A7 c7 w7 hown7 hg7 hat7; rw [own_slice] at hg7 hat7; rw [own_slice] at hat7; have e7c := ((H2.out.later (by go_grown)).grow (H2.out.later (by go_grown)).nw hg7 0 undef).2; have e7d := block_cell e7c (i := 3) rfl; have e7f := block_free e7c (i := 3))
  refine wp_gen fun W3 hW3 => ?_
  obtain ⟨P3, S3⟩ : PtB B W3 pb { Q with am := A5, cm := c5, ak := A6, ct := c6, aw := A7, cw := c7 } bl (vm ++ [.slice none 0 0]) (wq ++ [(vm.length : Int)]) (wts ++ [true]) ∧ PtS pb Q { Q with am := A5, cm := c5, ak := A6, ct := c6, aw := A7, cw := c7 } w W3 := by
    have h0 := H2.out.later (w' := W2.alloc (.cells #[.int .i64 (vm.length : Int)] 3)) (by go_grown)
    have := h0.pushW (z := (vm.length : Int)) hg7 (by rw [List.map_append]; exact hown7) hat7
    rw [hW3]
    exact ⟨this.1, (HS2.out.trans (PtS.of_below pb _ (by go_grown))).trans this.2⟩
  have H3 := hid P3
  have HS3 := hid S3
  clear hW3 P3 S3 hown7 hg7 hat7 e7c e7d e7f H2 HS2 H1 HS1
  go_wp2_with fail
  go_ret
  exact ⟨_, rfl, H3.out, HS3.out, rfl, rfl⟩
end Go.Proofs.Ytcmhginhfhiolaa
set_option linter.unusedVariables false
set_option linter.unusedSimpArgs false
namespace Go.Proofs.Ytcmhginhfhiolaa
open Go.RowKit

def setL (l : List Int) (S : List Nat) (z : Int) : List Int := S.foldl (fun l q => l.set q z) l
theorem setL_len (S : List Nat) (z : Int) : ∀ l : List Int, (setL l S z).length = l.length := by
  induction S with
  | nil => intro l; rfl
  | cons q S ih =>
    intro l
    show (setL (l.set q z) S z).length = _
    rw [ih, List.length_set]
theorem setL_snoc (l : List Int) (S : List Nat) (q : Nat) (z : Int) : setL l (S ++ [q]) z = (setL l S z).set q z := by
  unfold setL; rw [List.foldl_append]; rfl
theorem getD_setI {l : List Int} {q i : Nat} {z : Int} (h : i < l.length) : (l.set q z).getD i 0 = if i = q then z else l.getD i 0 := by
  simp only [List.getD, List.getElem?_set]
  by_cases e : q = i
  · subst e; simp [h]
  · rw [if_neg e, if_neg (fun e2 => e e2.symm)]
theorem setL_get (z : Int) (i : Nat) : ∀ (S : List Nat) (l : List Int), i < l.length → (setL l S z).getD i 0 = if i ∈ S then z else l.getD i 0 := by
  intro S
  induction S with
  | nil => intro l h; simp [setL]
  | cons q S ih =>
    intro l h
    show (setL (l.set q z) S z).getD i 0 = _
    rw [ih _ (by rw [List.length_set]; exact h), getD_setI h]
    by_cases h1 : i ∈ S
    · rw [if_pos h1, if_pos (List.mem_cons_of_mem _ h1)]
    · rw [if_neg h1]
      by_cases h2 : i = q
      · rw [if_pos h2, if_pos (by rw [h2]; exact List.mem_cons_self)]
      · rw [if_neg h2, if_neg (by rw [List.mem_cons]; rintro (h | h); exact h2 h; exact h1 h)]
/-- The states of a block that are still in it. -/
def othL (bl : List Int) (b : Nat) (l : List Nat) : List Nat := l.filter fun q => decide (bl.getD q 0 = (b : Int))
theorem othL_snoc (bl : List Int) (b : Nat) (l : List Nat) (q : Nat) : othL bl b (l ++ [q]) = if bl.getD q 0 = (b : Int) then othL bl b l ++ [q] else othL bl b l := by
  unfold othL
  rw [List.filter_append]
  by_cases h : bl.getD q 0 = (b : Int)
  · rw [if_pos h, List.filter_cons, decide_eq_true h]; rfl
  · rw [if_neg h, List.filter_cons, decide_eq_false h]; simp
theorem othL_le (bl : List Int) (b : Nat) (l : List Nat) : (othL bl b l).length ≤ l.length := List.length_filter_le _ _
def natR (mem : List (List Nat)) : List (List Int) := mem.map natZ
theorem natR_len (mem : List (List Nat)) : (natR mem).length = mem.length := by simp [natR]
theorem natR_get (mem : List (List Nat)) (i : Nat) : (natR mem).getD i [] = natZ (mem.getD i []) := by
  simp only [natR, List.getD, List.getElem?_map]
  rcases mem[i]? with _ | l <;> rfl
theorem natZ_snoc (l : List Nat) (q : Nat) : natZ (l ++ [q]) = natZ l ++ [(q : Int)] := by simp [natZ]
/-- A row of the rows is put in place of another. -/
theorem RowsX.put {X : Dom} {wr : World} {B : Nat} {rows : List (List Int)} {vs : List Value} (h : RowsX X wr B rows vs) (hl : vs.length = rows.length) {i : Nat} {A : Option Addr} {c : Nat} {r : List Int} (hr : RdI wr (IBX X wr B) A c r) (n : Nat) (hn : n = r.length) :
    RowsX X wr B (rows.set i r) (vs.set i (.slice A n c)) := fun j hj => by
  subst hn
  rw [List.length_set] at hj
  by_cases e : i = j
  · subst e
    have e1 : (rows.set i r).getD i [] = r := by simp [List.getD, List.getElem?_set, hj]
    rw [e1]
    refine ⟨A, c, ?_, hr⟩
    rw [List.getElem?_set, if_pos rfl, if_pos (by omega)]
  · have e1 : (rows.set i r).getD j [] = rows.getD j [] := by simp [List.getD, List.getElem?_set, e]
    rw [e1, List.getElem?_set, if_neg e]
    exact h j hj
theorem RowsX.get {X : Dom} {wr : World} {B : Nat} {mem : List (List Nat)} {vs : List Value} (h : RowsX X wr B (natR mem) vs) {i : Nat} (hi : i < mem.length) : ∃ A c, vs[i]? = some (.slice A (mem.getD i []).length c) ∧ RdI wr (IBX X wr B) A c (natZ (mem.getD i [])) := by
  obtain ⟨A, c, h1, h2⟩ := h i (by rw [natR_len]; exact hi)
  rw [natR_get, natZ_len] at h1
  rw [natR_get] at h2
  exact ⟨A, c, h1, h2⟩
theorem RdI.natc {w : World} {D : Dom} {A : Option Addr} {c : Nat} {l : List Nat} (h : RdI w D A c (natZ l)) {k : Nat} (hk : k < l.length) : ∃ b o q, A = some ⟨b, o, none⟩ ∧ b < w.heap.size ∧ Hid (l.getD k 0 = q) ∧ q ∈ l ∧ w.cell? ⟨b, o + k, none⟩ = some (.int .i64 (q : Int)) := by
  obtain ⟨b, o, e, _, hl, hc⟩ := h.ptr (by rw [natZ_len]; omega)
  have := hc k (by rw [natZ_len]; exact hk)
  rw [natZ_get _ hk] at this
  exact ⟨b, o, _, e, hl, hid rfl, getD_mem _ _ hk, this⟩
theorem take_get {l : List Nat} {k q : Nat} (hk : k < l.length) (hq : l.getD k 0 = q) : l.take (k + 1) = l.take k ++ [q] := by
  rw [take_succ_getD l 0 hk, hq]
/-- A row of its own is a row of ints that is not hot. -/
theorem PtB.fresh {B : Nat} {w w0 : World} {pb : Nat} {Q : PTA} {bl : List Int} {vm : List Value} {wq : List Int} {wts : List Bool} (h : PtB B w0 pb Q bl vm wq wts) (hB : B ≤ w0.heap.size) {A : Option Addr} {c : Nat} {l : List Nat} (hl : l.length ≤ 140737488355328) (ho : w.ownsRow w0.heap.size 3 1 (.slice A l.length c) l.length ((natZ l).map (.int .i64))) : RdI w (IBX Q.hot w B) A c (natZ l) := by
  refine IBX.own (B' := w0.heap.size) (n := l.length) hB (fun k e hx => ?_) ho (natZ_len l).symm hl
  have h1 := (ho.lt k e.symm).1
  have h2 : k < w0.heap.size := h.vlt (by rcases hx with hx | hx; exact .inr (.inl hx); exact .inr (.inr (.inr (.inl hx))))
  omega
end Go.Proofs.Ytcmhginhfhiolaa
set_option linter.unusedVariables false
set_option linter.unusedSimpArgs false
namespace Go.Proofs.Ytcmhginhfhiolaa
open Go.RowKit
attribute [local go_sem] cell_alloc_old

/-- The states that stay in the block and those that leave it. -/
def Sides (bl : List Int) (b : Nat) (l S stay leave : List Nat) : Prop :=
  (stay = othL (setL bl S (-1)) b l ∧ leave = S) ∨ (stay = S ∧ leave = othL (setL bl S (-1)) b l)
def CutSays (B pb b : Nat) (Q : PTA) (bl : List Int) (mem : List (List Nat)) (vm : List Value) (wq : List Int) (wts : List Bool) (S : List Nat) (w : World) (e : Ending) (w' : World) : Prop :=
  ∃ Q' vm' stay leave, e = .returned (.tuple #[]) ∧ Sides bl b (mem.getD b []) S stay leave ∧ PtB B w' pb Q' (setL (setL (setL bl S (-1)) stay (b : Int)) leave (mem.length : Int)) vm' (wq ++ [(mem.length : Int)]) (wts ++ [true]) ∧ vm'.length = mem.length + 1 ∧
    RowsX Q'.hot w' B (natR (((mem ++ [[]]).set b stay).set mem.length leave)) vm' ∧ PtS pb Q Q' w w'

set_option maxRecDepth 100000 in
set_option maxHeartbeats 8000000 in
theorem cut_any (B pb b : Nat) (Q : PTA) (bl : List Int) (mem : List (List Nat)) (vm : List Value) (wq : List Int) (wts : List Bool) (As : Option Addr) (cs : Nat) (S : List Nat) (w : World) (h : PtB B w pb Q bl vm wq wts) (hB : B ≤ w.heap.size) (h1 : vm.length ≤ 100000) (h2 : wq.length ≤ 1000000)
    (hvl : vm.length = mem.length) (hkl : wts.length = mem.length) (hmr : RowsX Q.hot w B (natR mem) vm) (hb : b < mem.length) (hS : RdI w (IBX Q.hot w B) As cs (natZ S)) (hSl : ∀ q ∈ S, q < bl.length) (hml : ∀ q ∈ mem.getD b [], q < bl.length) (hbl : bl.length ≤ 100000) (hmbl : (mem.getD b []).length ≤ 100000) :
    Calls Try.prog 65 #[.pointer (some ⟨pb, 0, none⟩), .int .i64 (b : Int), .slice As S.length cs] w (CutSays B pb b Q bl mem vm wq wts S w) := by
  obtain ⟨i0, hti, hz0, hz1, hz2⟩ := info_parts int_info2
  have H0 := hid h
  have HR0 := hid hmr
  have HS0 := hid hS
  have HVL := hid hvl
  have HKL := hid hkl
  have HSL := hid hSl
  have HML := hid hml
  have hsl := hS.len
  rw [natZ_len] at hsl
  have hnbi : (b : Int) < mem.length := by omega
  have hvl1 : vm.length ≤ mem.length := by omega
  have hvl2 : mem.length ≤ vm.length := by omega
  have hkl1 : wts.length ≤ mem.length := by omega
  have hkl2 : mem.length ≤ wts.length := by omega
  clear h hmr hS hvl hkl hSl hml
  go_enter Try.func65, Try.ntmps65
  go_upto_region 1 with (fail)
  go_loopw [20] (fun t wr => ∃ k : Nat, k ≤ S.length ∧ t = .int .i64 (k : Int) ∧ PtB B wr pb Q (setL bl (S.take k) (-1)) vm wq wts ∧ PtS pb Q Q w wr) (fun t _ => S.length - (intOf t).toNat)
  case atStart => exact ⟨0, Nat.zero_le _, rfl, H0.out, PtS.refl _ _ _⟩
  case round =>
    obtain ⟨k, hk, rfl, hP, hPS⟩ := hrel
    have HP := hid hP
    have HPS := hid hPS
    have HSR := hid (H0.out.row HS0.out hPS)
    have x0 := hP.cells.1
    rw [setL_len] at x0
    clear hP hPS
    by_cases hlt : k < S.length
    · have hki : (k : Int) < S.length := by omega
      obtain ⟨sb, so, q, hAs, hsbl, HQ, hqS, hc⟩ := HSR.out.natc hlt
      subst hAs
      have hqb := HSL.out q hqS
      have hqi : (q : Int) < bl.length := by omega
      have hbo := HP.out.bo
      obtain ⟨g, hg, hgB, hgl, hcells, -⟩ := own_ptr hbo (by rw [setL_len]; omega)
      rw [hg] at x0
      have HG := hid hg
      obtain ⟨u, hu⟩ : ∃ u, ((setL bl (S.take k) (-1)).map (Value.int .i64))[q]? = some u := ⟨_, List.getElem?_eq_getElem (by rw [List.length_map, setL_len]; exact hqb)⟩
      obtain ⟨gc, gf⟩ := hcells q u hu
      clear hcells hbo hqS hu hg
      go_wp2_with fail
      have hst := HP.out.setB HG.out (-1) (q := q)
      have HST := hid hst
      clear hst gc gf hc x0
      go_roundw
      case rel => exact ⟨k + 1, by omega, by go_num, by rw [take_get hlt HQ.out, setL_snoc]; exact HST.out.1, HPS.out.trans HST.out.2⟩
      case measure => simp [intOf]; omega
    · obtain rfl : k = S.length := by omega
      obtain ⟨bl1, hbl1⟩ : ∃ l, l = setL bl S (-1) := ⟨_, rfl⟩
      have hP1 := HP.out
      rw [List.take_length, ← hbl1] at hP1
      have hl1 : bl1.length = bl.length := by rw [hbl1, setL_len]
      have HB1 := hid hbl1
      have HL1 := hid hl1
      have HP1 := hid hP1
      have HRR := hid (H0.out.rows HR0.out HPS.out)
      obtain ⟨ml, hml⟩ : ∃ l, l = mem.getD b [] := ⟨_, rfl⟩
      have HMLE := hid hml
      obtain ⟨Am, cm, hvb, hmrow⟩ := HRR.out.get hb
      rw [← hml] at hvb hmrow hmbl
      have hMQ : ∀ q ∈ ml, q < bl.length := fun q hq => HML.out q (hml ▸ hq)
      have HMQ := hid hMQ
      have HMR := hid hmrow
      obtain ⟨mg, hmg, hmgB, hmgl, hmc, -⟩ := own_ptr hP1.mo (by omega)
      obtain ⟨mgc, mgf⟩ := hmc b _ hvb
      have x1 := hP1.cells.2.1
      rw [hmg] at x1
      have hml2 := hmrow.len
      rw [natZ_len] at hml2
      have hsz1 := HPS.out.chg.size
      clear hP1 hbl1 hl1 HP hml hvb hmrow hMQ hmg hmc x0
      obtain ⟨w1, rfl⟩ : ∃ w1 : World, w1 = wr := ⟨_, rfl⟩
      go_wp2_with fail
      go_loopw [8, 39] (fun v t wc => ∃ (k : Nat) (Ao : Option Addr) (co : Nat), k ≤ ml.length ∧ t = .int .i64 (k : Int) ∧ v = .slice Ao (othL bl1 b (ml.take k)).length co ∧ wc.ownsRow w1.heap.size 3 1 (.slice Ao (othL bl1 b (ml.take k)).length co) (othL bl1 b (ml.take k)).length ((natZ (othL bl1 b (ml.take k))).map (.int .i64)) ∧ Below w1.heap.size w1 wc) (fun _ t _ => ml.length - (intOf t).toNat)
      case atStart => exact ⟨0, none, 0, Nat.zero_le _, rfl, rfl, ⟨rfl, .inl ⟨rfl, rfl⟩⟩, Below.refl _ _⟩
      case round =>
        obtain ⟨k, Ao, co, hk, rfl, rfl, hown, hbw⟩ := hrel
        have HOWN := hid hown
        have HBW := hid hbw
        have hPc := HP1.out.later hbw
        have HPC := hid hPc
        have HMRC := hid (HP1.out.row HMR.out (PtS.of_below pb Q hbw))
        have hszc := hbw.size
        have hol : (othL bl1 b (ml.take k)).length ≤ 100000 := Nat.le_trans (othL_le _ _ _) (by rw [List.length_take]; omega)
        have x0 := hPc.cells.1
        clear hown hbw hPc mgc mgf x1
        by_cases hlt : k < ml.length
        · have hki : (k : Int) < ml.length := by omega
          obtain ⟨sb, so, q, hAs, hsbl, HQ, hqS, hc⟩ := HMRC.out.natc hlt
          subst hAs
          have hqb := HMQ.out q hqS
          have hqi : (q : Int) < bl1.length := by have := HL1.out; omega
          have hql : q < bl1.length := by omega
          obtain ⟨g, hg, hgB, hgl, hcells, -⟩ := own_ptr HPC.out.bo (by omega)
          rw [hg] at x0
          obtain ⟨z, hz⟩ : ∃ z, bl1.getD q 0 = z := ⟨_, rfl⟩
          have gc := (hcells q (.int .i64 z) (by rw [List.getElem?_map, List.getElem?_eq_getElem hql, ← hz]; simp [List.getD, hql])).1
          have HZ := hid hz
          clear hcells hqS hg hz
          have hbl1l := HL1.out.symm ▸ hbl
          by_cases hzb : z = (b : Int)
          · have n3 : (z == (b : Int)) = true := by rw [hzb]; simp
            have HT := hid (show othL bl1 b (ml.take (k + 1)) = othL bl1 b (ml.take k) ++ [q] by rw [take_get hlt HQ.out, othL_snoc, if_pos (HZ.out.trans hzb)])
            clear hzb
            go_wp2_with (at_builtin; go_must (refine wpList_append_rd _ rfl (.tmp 52) (.tmp 54) 34 rfl w1.heap.size 3 i0 _ 1 8 Try.underlying34 hti hz0 hz1 hz2 rfl (by omega) (.slice Ao (othL bl1 b (ml.take k)).length co) (othL bl1 b (ml.take k)).length _ rfl (HOWN.out.alloc _) _ (some ⟨wr.heap.size, 0, none⟩) 1 1 _ rfl (Rd.cell1 (cell_new wr _ _ _ _ _ rfl rfl)) (by simp [Value.oneCell']) (by omega) (maxLen_le (by omega)) (by simp; omega) ?_); intro A5 c5 w5 hown5 hg5 hat5)
            have hb5 := Below.grown (B := w1.heap.size) (HBW.out.trans ((show Below wr.heap.size wr _ from by go_grown).mono hszc)) hg5 (by simp; omega) (fun k hk => (HOWN.out.lt k hk).1)
            have HO5 := hid hown5
            have HB5 := hid hb5
            clear hown5 hg5 hat5 hb5 gc
            go_roundw
            case rel => exact ⟨k + 1, A5, c5, by omega, by go_num, by rw [HT.out, List.length_append]; rfl, by rw [HT.out, natZ_snoc, List.map_append, List.length_append]; exact HO5.out, HB5.out⟩
            case measure => simp [intOf]; omega
          · have n3 : (z == (b : Int)) = false := by simp [hzb]
            have HT := hid (show othL bl1 b (ml.take (k + 1)) = othL bl1 b (ml.take k) by rw [take_get hlt HQ.out, othL_snoc, if_neg (by rw [HZ.out]; exact hzb)])
            clear hzb
            go_wp2_with fail
            go_roundw
            case rel => exact ⟨k + 1, Ao, co, by omega, by go_num, by rw [HT.out], by rw [HT.out]; exact HOWN.out, HBW.out⟩
            case measure => simp [intOf]; omega
        · obtain rfl : k = ml.length := by omega
          rw [List.take_length] at HOWN hol ⊢
          obtain ⟨ot, hot⟩ : ∃ l, l = othL bl1 b ml := ⟨_, rfl⟩
          rw [← hot] at HOWN hol ⊢
          have HOT := hid hot
          have HORW := hid (HP1.out.fresh (by omega) (show ot.length ≤ 140737488355328 by omega) HOWN.out)
          have HSRC := hid (HP1.out.row HSR.out (PtS.of_below pb Q HBW.out))
          have HRRC := hid (HP1.out.rows HRR.out (PtS.of_below pb Q HBW.out))
          have HPSC := hid (HPS.out.trans (PtS.of_below pb Q HBW.out))
          have x4 := HPC.out.cells.2.2.2.2.1
          obtain ⟨kg, hkg, hkgB, hkgl, hkc, -⟩ := own_ptr HPC.out.two (by omega)
          rw [hkg] at x4
          obtain ⟨tb, htb⟩ : ∃ t, t = wts.getD b false := ⟨_, rfl⟩
          have gk := (hkc b (.bool tb) (by rw [List.getElem?_map, List.getElem?_eq_getElem (show b < wts.length by omega), htb]; simp [List.getD, show b < wts.length by omega])).1
          have hnk : (b : Int) < wts.length := by omega
          clear hkc htb hkg hot x0 HOWN
          go_upto_region 13 with (fail)
          go_cut [73] (fun v wc => ∃ c : Bool, v = .bool c ∧ wr = wc)
          case first =>
            cases tb with
            | true =>
              go_wp2_with fail
              go_meet
              exact ⟨_, rfl, rfl⟩
            | false =>
              by_cases hgt : (ot.length : Int) < S.length
              · go_wp2_with fail
                all_goals
                  go_meet
                  exact ⟨_, rfl, rfl⟩
              · go_wp2_with fail
                all_goals
                  go_meet
                  exact ⟨_, rfl, rfl⟩
          case rest =>
            obtain ⟨c, rfl, rfl⟩ := hcut
            go_upto_if 73 with (fail)
            go_cut [11, 12] (fun v t wc => ∃ (A1 : Option Addr) (c1 : Nat) (A2 : Option Addr) (c2 : Nat) (stay leave : List Nat), v = .slice A1 stay.length c1 ∧ t = .slice A2 leave.length c2 ∧ Sides bl b (mem.getD b []) S stay leave ∧ RdI wr (IBX Q.hot wr B) A1 c1 (natZ stay) ∧ RdI wr (IBX Q.hot wr B) A2 c2 (natZ leave) ∧ wr = wc)
            case first =>
              cases c with
              | true =>
                go_wp2_with fail
                go_meet
                exact ⟨_, _, _, _, S, ot, rfl, rfl, .inr ⟨rfl, by rw [HOT.out, HB1.out, HMLE.out]⟩, HSRC.out, HORW.out, rfl⟩
              | false =>
                go_wp2_with fail
                go_meet
                exact ⟨_, _, _, _, ot, S, rfl, rfl, .inl ⟨by rw [HOT.out, HB1.out, HMLE.out], rfl⟩, HORW.out, HSRC.out, rfl⟩
            case rest =>
              obtain ⟨A1, c1, A2, c2, stay, leave, rfl, rfl, hsd, hr1, hr2, rfl⟩ := hcut
              have hr1l := hr1.len
              have hr2l := hr2.len
              rw [natZ_len] at hr1l hr2l
              have hqs : (∀ q ∈ stay, q < bl.length) ∧ (∀ q ∈ leave, q < bl.length) := by
                have ho : ∀ q ∈ othL (setL bl S (-1)) b (mem.getD b []), q < bl.length := fun q hq => HML.out q (List.mem_filter.1 hq).1
                rcases hsd with ⟨h1, h2⟩ | ⟨h1, h2⟩
                · rw [h1, h2]; exact ⟨ho, HSL.out⟩
                · rw [h1, h2]; exact ⟨HSL.out, ho⟩
              have HQS := hid hqs
              have HSD := hid hsd
              have HR1 := hid hr1
              have HR2 := hid hr2
              have hBr : B ≤ wr.heap.size := by omega
              clear hqs hsd hr1 hr2 gk x4
              go_wp2_with fail
              refine (open_any B pb Q bl1 vm wq wts wr HPC.out hBr h1 h2 (by omega)).mono ?_
              rintro e w3 ⟨Q3, rfl, hp3, hs3, hab, hcb⟩
              have HP3 := hid hp3
              have HS3 := hid hs3
              have hm3 : RowsX Q3.hot w3 B (natR (mem ++ [[]])) (vm ++ [.slice none 0 0]) := by
                have h1 := HPC.out.rows HRRC.out hs3
                have := h1.snoc (by rw [natR_len]; exact HVL.out) (RdI.nil w3 (IBX Q3.hot w3 B) none (c := 0) (by omega))
                have e : natR (mem ++ [[]]) = natR mem ++ [[]] := by simp [natR, natZ]
                rw [e]
                exact this
              have HM3 := hid hm3
              have HR31 := hid (HPC.out.row HR1.out hs3)
              have HR32 := hid (HPC.out.row HR2.out hs3)
              obtain ⟨mg, hmg, hmgB, hmgl, hmc, -⟩ := own_ptr hp3.mo (by simp)
              have x1 := hp3.cells.2.1
              rw [hmg, List.length_append, List.length_singleton] at x1
              obtain ⟨u1, hu1⟩ : ∃ u, (vm ++ [.slice none 0 0])[b]? = some u := ⟨_, List.getElem?_eq_getElem (by rw [List.length_append]; omega)⟩
              obtain ⟨u2, hu2⟩ : ∃ u, (vm ++ [.slice none 0 0])[vm.length]? = some u := ⟨_, List.getElem?_eq_getElem (by rw [List.length_append]; simp)⟩
              obtain ⟨m1, m2⟩ := hmc b u1 hu1
              obtain ⟨m3, m4⟩ := hmc vm.length u2 hu2
              have HMG := hid hmg
              have hbne : mg ≠ pb := fun e => hp3.nm (by rw [hmg, ← e]; rfl)
              have hbv : (b : Int) < (vm.length : Int) + 1 := by omega
              have hbv0 : (0 : Int) ≤ (b : Int) := by omega
              have hvv : (vm.length : Int) < (vm.length : Int) + 1 := by omega
              have hvv0 : (0 : Int) ≤ (vm.length : Int) := by omega
              have hpbl : pb < w3.heap.size := lt_of_block hp3.box
              clear hp3 hs3 hab hcb hm3 hmc hu1 hu2 hmg
              go_wp2_with fail
              go_region_held3 (fun w' => w'.cell? ⟨pb, 1, none⟩ = some (.slice (some ⟨mg, 0, none⟩) (vm.length + 1) Q3.cm)) (go_keep) (fail)
              go_upto_region 18 with (fail)
              refine wp_gen fun w4 hW4 => ?_
              obtain ⟨vm4, hvm4⟩ : ∃ l : List Value, l = ((vm ++ [Value.slice none 0 0]).set b (Value.slice A1 stay.length c1)).set vm.length (Value.slice A2 leave.length c2) := ⟨_, rfl⟩
              obtain ⟨P4, S4⟩ : PtB B w4 pb Q3 bl1 vm4 (wq ++ [(vm.length : Int)]) (wts ++ [true]) ∧ PtS pb Q3 Q3 w3 w4 := by
                have a1 := HP3.out.setM HMG.out (.slice A1 stay.length c1) (q := b)
                have a2 := a1.1.setM HMG.out (.slice A2 leave.length c2) (q := vm.length)
                rw [hvm4, hW4]
                exact ⟨a2.1.later ((Below.refl _ _).drew), (a1.2.trans a2.2).trans (PtS.of_below pb _ ((Below.refl _ _).drew))⟩
              have hm4 : RowsX Q3.hot w4 B (natR (((mem ++ [[]]).set b stay).set mem.length leave)) vm4 := by
                have h1 := HP3.out.rows HM3.out S4
                have h2 := h1.put (by rw [natR_len, List.length_append, List.length_append, HVL.out]; rfl) (HP3.out.row HR31.out S4) stay.length (natZ_len _).symm (i := b)
                have h3 := h2.put (by rw [List.length_set, List.length_set, natR_len, List.length_append, List.length_append, HVL.out]; rfl) (HP3.out.row HR32.out S4) leave.length (natZ_len _).symm (i := vm.length)
                rw [hvm4]
                have e : natR (((mem ++ [[]]).set b stay).set mem.length leave) = ((natR (mem ++ [[]])).set b (natZ stay)).set vm.length (natZ leave) := by
                  unfold natR
                  rw [List.map_set, List.map_set, HVL.out]
                rw [e]
                exact h3
              have hvl4 : vm4.length = mem.length + 1 := by rw [hvm4, List.length_set, List.length_set, List.length_append, HVL.out]; rfl
              have HP4 := hid P4
              have HS4 := hid ((HPSC.out.trans HS3.out).trans S4)
              have HR41 := hid (HP3.out.row HR31.out S4)
              have HR42 := hid (HP3.out.row HR32.out S4)
              have HM4 := hid hm4
              have HVL4 := hid hvl4
              clear hW4 hvm4 P4 S4 hm4 hvl4 m1 m2 m3 m4 x1
              obtain ⟨w2, rfl⟩ : ∃ w2 : World, w2 = wr := ⟨_, rfl⟩
              go_loopw [94] (fun t wc => ∃ k : Nat, k ≤ stay.length ∧ t = .int .i64 (k : Int) ∧ PtB B wc pb Q3 (setL bl1 (stay.take k) (b : Int)) vm4 (wq ++ [(vm.length : Int)]) (wts ++ [true]) ∧ PtS pb Q3 Q3 w4 wc) (fun t _ => stay.length - (intOf t).toNat)
              case atStart => exact ⟨0, Nat.zero_le _, rfl, HP4.out, PtS.refl _ _ _⟩
              case round =>
                obtain ⟨k, hk, rfl, hP, hPS⟩ := hrel
                have HP := hid hP
                have HPS := hid hPS
                have HSR := hid (HP4.out.row HR41.out hPS)
                have x0 := hP.cells.1
                rw [setL_len] at x0
                clear hP hPS
                by_cases hlt : k < stay.length
                · have hki : (k : Int) < stay.length := by omega
                  obtain ⟨sb, so, q, hAs, hsbl, HQ, hqS, hc⟩ := HSR.out.natc hlt
                  subst hAs
                  have hqb := HQS.out.1 q hqS
                  rw [← HL1.out] at hqb
                  have hqi : (q : Int) < bl1.length := by omega
                  have hbo := HP.out.bo
                  obtain ⟨g, hg, hgB, hgl, hcells, -⟩ := own_ptr hbo (by rw [setL_len]; omega)
                  rw [hg] at x0
                  have HG := hid hg
                  obtain ⟨u, hu⟩ : ∃ u, ((setL bl1 (stay.take k) (b : Int)).map (Value.int .i64))[q]? = some u := ⟨_, List.getElem?_eq_getElem (by rw [List.length_map, setL_len]; exact hqb)⟩
                  obtain ⟨gc, gf⟩ := hcells q u hu
                  clear hcells hbo hqS hu hg
                  go_wp2_with fail
                  have hst := HP.out.setB HG.out (b : Int) (q := q)
                  have HST := hid hst
                  clear hst gc gf hc x0
                  go_roundw
                  case rel => exact ⟨k + 1, by omega, by go_num, by rw [take_get hlt HQ.out, setL_snoc]; exact HST.out.1, HPS.out.trans HST.out.2⟩
                  case measure => simp [intOf]; omega
                · obtain rfl : k = stay.length := by omega
                  obtain ⟨bl2, hbl2⟩ : ∃ l, l = setL bl1 stay (b : Int) := ⟨_, rfl⟩
                  have hP2 := HP.out
                  rw [List.take_length, ← hbl2] at hP2
                  have hl2 : bl2.length = bl.length := by rw [hbl2, setL_len, HL1.out]
                  have HB2 := hid hbl2
                  have HL2 := hid hl2
                  have HP2 := hid hP2
                  have HR52 := hid (HP4.out.row HR42.out HPS.out)
                  clear hP2 hbl2 hl2 HP x0
                  obtain ⟨w5, rfl⟩ : ∃ w1 : World, w1 = wr := ⟨_, rfl⟩
                  go_upto_region 23 with (fail)
                  go_loopw [108] (fun t wc => ∃ k : Nat, k ≤ leave.length ∧ t = .int .i64 (k : Int) ∧ PtB B wc pb Q3 (setL bl2 (leave.take k) (vm.length : Int)) vm4 (wq ++ [(vm.length : Int)]) (wts ++ [true]) ∧ PtS pb Q3 Q3 w5 wc) (fun t _ => leave.length - (intOf t).toNat)
                  case atStart => exact ⟨0, Nat.zero_le _, rfl, HP2.out, PtS.refl _ _ _⟩
                  case round =>
                    obtain ⟨k, hk, rfl, hP, hPS⟩ := hrel
                    have HP := hid hP
                    have HPS6 := hid hPS
                    have HSR := hid (HP2.out.row HR52.out hPS)
                    have x0 := hP.cells.1
                    rw [setL_len] at x0
                    clear hP hPS
                    by_cases hlt : k < leave.length
                    · have hki : (k : Int) < leave.length := by omega
                      obtain ⟨sb, so, q, hAs, hsbl, HQ, hqS, hc⟩ := HSR.out.natc hlt
                      subst hAs
                      have hqb := HQS.out.2 q hqS
                      rw [← HL2.out] at hqb
                      have hqi : (q : Int) < bl2.length := by omega
                      have hbo := HP.out.bo
                      obtain ⟨g, hg, hgB, hgl, hcells, -⟩ := own_ptr hbo (by rw [setL_len]; omega)
                      rw [hg] at x0
                      have HG := hid hg
                      obtain ⟨u, hu⟩ : ∃ u, ((setL bl2 (leave.take k) (vm.length : Int)).map (Value.int .i64))[q]? = some u := ⟨_, List.getElem?_eq_getElem (by rw [List.length_map, setL_len]; exact hqb)⟩
                      obtain ⟨gc, gf⟩ := hcells q u hu
                      clear hcells hbo hqS hu hg
                      go_wp2_with fail
                      have hst := HP.out.setB HG.out (vm.length : Int) (q := q)
                      have HST := hid hst
                      clear hst gc gf hc x0
                      go_roundw
                      case rel => exact ⟨k + 1, by omega, by go_num, by rw [take_get hlt HQ.out, setL_snoc]; exact HST.out.1, HPS6.out.trans HST.out.2⟩
                      case measure => simp [intOf]; omega
                    · obtain rfl : k = leave.length := by omega
                      have hP6 := HP.out
                      rw [List.take_length, HVL.out, HB2.out, HB1.out] at hP6
                      have HP6 := hid hP6
                      have HS6 := hid ((HS4.out.trans HPS.out).trans HPS6.out)
                      have HM6 := hid (HP2.out.rows (HP4.out.rows HM4.out HPS.out) HPS6.out)
                      clear hP6 x0
                      go_wp2_with fail
                      refine bodyPost_ret (results_none rfl _ _ _) rfl ?_
                      exact ⟨Q3, vm4, stay, leave, rfl, HSD.out, HP6.out, HVL4.out, HM6.out, HS6.out⟩
end Go.Proofs.Ytcmhginhfhiolaa
set_option linter.unusedVariables false
set_option linter.unusedSimpArgs false
namespace Go.Proofs.Ytcmhginhfhiolaa

def bF (bk : List Nat) : Nat → Nat := fun q => bk.getD q 0
/-- The lists of the partition: block numbers, members of the blocks, blocks that wait. -/
structure PSt (M : Mac) (bk : List Nat) (mem : List (List Nat)) (wq : List Nat) (wts : List Bool) : Prop where
  len : bk.length = M.size
  wl : wts.length = mem.length
  wle : wq.length ≤ mem.length
  wlt : ∀ b ∈ wq, b < mem.length
  part : Part M mem.length (bF bk)
  nd : ∀ b, b < mem.length → (mem.getD b []).Nodup
  me : ∀ b q, b < mem.length → (q ∈ mem.getD b [] ↔ q < M.size ∧ bF bk q = b)
theorem Part.congr {M : Mac} {nb : Nat} {f g : Nat → Nat} (h : Part M nb f) (he : ∀ q, q < M.size → g q = f q) : Part M nb g :=
  ⟨fun q hq => by rw [he q hq]; exact h.rng q hq, fun b hb => by
    obtain ⟨q, h1, h2⟩ := h.full b hb
    exact ⟨q, h1, by rw [he q h1]; exact h2⟩, fun p q hp hq hne => h.apart p q hp hq (by rw [he p hp, he q hq] at hne; exact hne), fun p q x hp hq e hx => h.outs p q x hp hq (by rw [he p hp, he q hq] at e; exact e) hx⟩
theorem Hop.congr {M : Mac} {k : Nat} {f g : Nat → Nat} {wt T : Nat → Prop} (h : Hop M f wt T k) (hM : M.Ok) (ht : Total M) (he : ∀ q, q < M.size → g q = f q) : Hop M g wt T k :=
  ⟨fun p q x hp hq e hx => by
    rw [he p hp, he q hq] at e
    rw [he _ (dl_lt hM ht hp hx), he _ (dl_lt hM ht hq hx)]
    exact h.h p q x hp hq e hx, h.t⟩
theorem nodup_sub_len {l m : List Nat} (hl : l.Nodup) (hs : ∀ q ∈ l, q ∈ m) : l.length ≤ m.length := nodup_le l m hl hs
/-- As many, without repetition, and among them: all of them. -/
theorem nodup_all {l m : List Nat} (hl : l.Nodup) (hs : ∀ q ∈ l, q ∈ m) (hlen : m.length ≤ l.length) {q : Nat} (hq : q ∈ m) : q ∈ l := by
  by_cases h : q ∈ l
  · exact h
  · have h1 := nodup_sub_len (l := q :: l) (m := m) (List.nodup_cons.2 ⟨h, hl⟩) fun p hp => by
      rcases List.mem_cons.1 hp with rfl | hp
      · exact hq
      · exact hs p hp
    simp only [List.length_cons] at h1
    omega
theorem getD_setR {l : List (List Nat)} {i j : Nat} {r : List Nat} (h : i < l.length) : (l.set i r).getD j [] = if j = i then r else l.getD j [] := by
  simp only [List.getD, List.getElem?_set]
  by_cases e : i = j
  · subst e; simp [h]
  · rw [if_neg e, if_neg (fun e2 => e e2.symm)]
theorem othL_mem {bk S l : List Nat} {b q : Nat} (hq : q < bk.length) (hb : bF bk q = b) (hql : q ∈ l) : q ∈ othL (setL (natZ bk) S (-1)) b l ↔ q ∉ S := by
  unfold othL
  rw [List.mem_filter, setL_get _ _ _ _ (by rw [natZ_len]; exact hq)]
  constructor
  · rintro ⟨_, h⟩ hs
    rw [if_pos hs] at h
    have := of_decide_eq_true h
    omega
  · intro hs
    refine ⟨hql, ?_⟩
    rw [if_neg hs, natZ_get _ hq]
    exact decide_eq_true (by rw [← hb]; rfl)
section
variable {M : Mac} {bk wq S stay leave : List Nat} {mem : List (List Nat)} {wts : List Bool} {b : Nat}
/-- Block numbers after the cut. -/
def cutK (bk leave : List Nat) (b nb : Nat) : List Nat := (List.range bk.length).map fun q => if q ∈ leave then nb else bF bk q
theorem cutK_get (nb : Nat) {q : Nat} (hq : q < bk.length) : bF (cutK bk leave b nb) q = if q ∈ leave then nb else bF bk q := by
  have e : bF (cutK bk leave b nb) q = ((cutK bk leave b nb)[q]?).getD 0 := by unfold bF; rw [List.getD_eq_getElem?_getD]
  rw [e]
  unfold cutK
  rw [List.getElem?_map, List.getElem?_range hq]; rfl
theorem natZ_ext {l m : List Nat} {z : List Int} (hl : z.length = l.length) (h : ∀ i, i < l.length → z.getD i 0 = (l.getD i 0 : Int)) : z = natZ l := by
  apply List.ext_getElem
  · rw [natZ_len]; exact hl
  · intro i h1 h2
    have := h i (by omega)
    simp only [List.getD, List.getElem?_eq_getElem h1, List.getElem?_eq_getElem (show i < l.length by omega), Option.getD_some] at this
    rw [this]
    simp [natZ]
theorem PSt.sides (h : PSt M bk mem wq wts) (hb : b < mem.length) (hS : S.Nodup) (hsub : ∀ q ∈ S, q ∈ mem.getD b []) (hsd : Sides (natZ bk) b (mem.getD b []) S stay leave) :
    stay.Nodup ∧ leave.Nodup ∧ (∀ q, q ∈ mem.getD b [] ↔ q ∈ stay ∨ q ∈ leave) ∧ (∀ q, q ∈ stay → q ∉ leave) ∧ (∀ q ∈ stay, ∀ p ∈ leave, (q ∈ S ↔ p ∉ S)) := by
  have hm := h.me b
  have ho : ∀ q, q ∈ othL (setL (natZ bk) S (-1)) b (mem.getD b []) ↔ q ∈ mem.getD b [] ∧ q ∉ S := fun q => by
    constructor
    · intro hq
      have h1 : q ∈ mem.getD b [] := (List.mem_filter.1 hq).1
      have h2 := (hm q hb).1 h1
      exact ⟨h1, (othL_mem (by rw [h.len]; exact h2.1) h2.2 h1).1 hq⟩
    · rintro ⟨h1, h3⟩
      have h2 := (hm q hb).1 h1
      exact (othL_mem (by rw [h.len]; exact h2.1) h2.2 h1).2 h3
  have hn : (othL (setL (natZ bk) S (-1)) b (mem.getD b [])).Nodup := (h.nd b hb).filter _
  rcases hsd with ⟨rfl, rfl⟩ | ⟨rfl, rfl⟩
  · refine ⟨hn, hS, fun q => ?_, fun q h1 h2 => ((ho q).1 h1).2 h2, fun q h1 p h2 => ⟨fun h3 => absurd h3 ((ho q).1 h1).2, fun h3 => absurd h2 h3⟩⟩
    by_cases hq : q ∈ leave
    · exact ⟨fun _ => .inr hq, fun _ => hsub q hq⟩
    · rw [ho]
      exact ⟨fun h1 => .inl ⟨h1, hq⟩, fun h1 => h1.elim (fun h2 => h2.1) (fun h2 => absurd h2 hq)⟩
  · refine ⟨hS, hn, fun q => ?_, fun q h1 h2 => ((ho q).1 h2).2 h1, fun q h1 p h2 => ⟨fun _ => ((ho p).1 h2).2, fun _ => h1⟩⟩
    by_cases hq : q ∈ stay
    · exact ⟨fun _ => .inl hq, fun _ => hsub q hq⟩
    · rw [ho]
      exact ⟨fun h1 => .inr ⟨h1, hq⟩, fun h1 => h1.elim (fun h2 => absurd h2 hq) (fun h2 => h2.1)⟩
theorem PSt.cut (h : PSt M bk mem wq wts) (hb : b < mem.length) (hS : S.Nodup) (hsub : ∀ q ∈ S, q ∈ mem.getD b []) (h0 : S ≠ []) (hlt : S.length < (mem.getD b []).length)
    (hsep : ∀ p q, p ∈ S → q ∈ mem.getD b [] → q ∉ S → ¬ Sim M M p q) (hsd : Sides (natZ bk) b (mem.getD b []) S stay leave) :
    setL (setL (setL (natZ bk) S (-1)) stay (b : Int)) leave (mem.length : Int) = natZ (cutK bk leave b mem.length) ∧
    PSt M (cutK bk leave b mem.length) (((mem ++ [[]]).set b stay).set mem.length leave) (wq ++ [mem.length]) (wts ++ [true]) := by
  obtain ⟨hn1, hn2, hmem, hdis, hcr⟩ := h.sides hb hS hsub hsd
  have hlenS := nodup_sub_len hS hsub
  have hqb : ∀ q, q ∈ mem.getD b [] → q < bk.length ∧ bF bk q = b := fun q hq => by
    have := (h.me b q hb).1 hq
    rw [h.len]; exact this
  have hml : (((mem ++ [[]]).set b stay).set mem.length leave).length = mem.length + 1 := by simp
  have hget : ∀ c, (((mem ++ [[]]).set b stay).set mem.length leave).getD c [] = if c = mem.length then leave else if c = b then stay else mem.getD c [] := fun c => by
    rw [getD_setR (by simp)]
    by_cases e : c = mem.length
    · rw [if_pos e, if_pos e]
    · rw [if_neg e, if_neg e, getD_setR (by simp; omega)]
      by_cases e2 : c = b
      · rw [if_pos e2, if_pos e2]
      · rw [if_neg e2, if_neg e2]
        simp only [List.getD, List.getElem?_append]
        by_cases h1 : c < mem.length
        · rw [if_pos h1]
        · rw [if_neg h1, List.getElem?_eq_none (by simp; omega), List.getElem?_eq_none (by omega)]
  have hone : ∃ q, q ∈ mem.getD b [] ∧ q ∉ S := by
    refine Classical.byContradiction fun hc => ?_
    have := nodup_sub_len (l := mem.getD b []) (m := S) (h.nd b hb) fun q hq => Classical.byContradiction fun h1 => hc ⟨q, hq, h1⟩
    omega
  obtain ⟨s0, hs0⟩ : ∃ s, s ∈ S := by
    rcases S with _ | ⟨s, S⟩
    · exact absurd rfl h0
    · exact ⟨s, List.mem_cons_self⟩
  obtain ⟨s1, hs1, hs1n⟩ := hone
  have hl1 : ∃ q, q ∈ leave := by
    rcases (hmem s0).1 (hsub s0 hs0) with h1 | h1
    · rcases (hmem s1).1 hs1 with h2 | h2
      · rcases hsd with ⟨e1, e2⟩ | ⟨e1, e2⟩
        · exact ⟨s0, by rw [e2]; exact hs0⟩
        · rw [e1] at h2; exact absurd h2 hs1n
      · exact ⟨s1, h2⟩
    · exact ⟨s0, h1⟩
  have hl2 : ∃ q, q ∈ stay := by
    rcases (hmem s0).1 (hsub s0 hs0) with h1 | h1
    · exact ⟨s0, h1⟩
    · rcases (hmem s1).1 hs1 with h2 | h2
      · exact ⟨s1, h2⟩
      · rcases hsd with ⟨e1, e2⟩ | ⟨e1, e2⟩
        · rw [e2] at h2; exact absurd h2 hs1n
        · exact ⟨s0, by rw [e1]; exact hs0⟩
  refine ⟨natZ_ext (m := []) (by rw [setL_len, setL_len, setL_len, natZ_len]; unfold cutK; simp) fun q hq => ?_, ⟨by unfold cutK; simp [h.len], by rw [List.length_append, hml, h.wl]; rfl, by rw [List.length_append, hml]; have := h.wle; simp; omega, fun c hc => ?_, ?_, fun c hc => ?_, fun c q hc => ?_⟩⟩
  · have hq' : q < bk.length := by unfold cutK at hq; simpa using hq
    have e : ((cutK bk leave b mem.length).getD q 0 : Int) = ((if q ∈ leave then mem.length else bF bk q : Nat) : Int) := by rw [← cutK_get (b := b) mem.length hq']; rfl
    rw [e, setL_get _ _ _ _ (by rw [setL_len, setL_len, natZ_len]; exact hq')]
    by_cases h1 : q ∈ leave
    · rw [if_pos h1, if_pos h1]
    · rw [if_neg h1, if_neg h1, setL_get _ _ _ _ (by rw [setL_len, natZ_len]; exact hq')]
      by_cases h2 : q ∈ stay
      · rw [if_pos h2, (hqb q ((hmem q).2 (.inl h2))).2]
      · rw [if_neg h2, setL_get _ _ _ _ (by rw [natZ_len]; exact hq'), if_neg (fun h3 => ?_), natZ_get _ hq']
        · rfl
        · rcases (hmem q).1 (hsub q h3) with h4 | h4
          · exact h2 h4
          · exact h1 h4
  · rw [hml]
    rw [List.mem_append, List.mem_singleton] at hc
    rcases hc with hc | hc
    · have := h.wlt c hc; omega
    · omega
  · rw [hml]
    haveI : DecidablePred (fun q => q ∈ leave) := fun q => inferInstance
    refine (h.part.cut (b := b) (Lv := fun q => q ∈ leave) hb ?_ ?_ fun p q hp hq hpb hqb' h1 h2 => ?_).congr fun q hq => ?_
    · obtain ⟨q, hq⟩ := hl1
      have := (h.me b q hb).1 ((hmem q).2 (.inr hq))
      exact ⟨q, this.1, this.2, hq⟩
    · obtain ⟨q, hq⟩ := hl2
      have := (h.me b q hb).1 ((hmem q).2 (.inl hq))
      exact ⟨q, this.1, this.2, hdis q hq⟩
    · have hpm := (h.me b p hb).2 ⟨hp, hpb⟩
      have hqm := (h.me b q hb).2 ⟨hq, hqb'⟩
      have hqs : q ∈ stay := ((hmem q).1 hqm).resolve_right h2
      have hx := hcr q hqs p h1
      by_cases hpS : p ∈ S
      · exact hsep p q hpS hqm (fun h3 => hx.1 h3 hpS)
      · exact fun hs => hsep q p (hx.2 hpS) hpm hpS (sim_symm rfl hs)
    · rw [cutK_get (b := b) mem.length (by rw [h.len]; exact hq)]
      unfold cutB
      by_cases h1 : q ∈ leave
      · rw [if_pos h1, if_pos ⟨(hqb q ((hmem q).2 (.inr h1))).2, h1⟩]
      · rw [if_neg h1, if_neg (fun h2 => h1 h2.2)]
  · rw [hget]
    rw [hml] at hc
    split
    · exact hn2
    · split
      · exact hn1
      · exact h.nd c (by omega)
  · rw [hget]
    rw [hml] at hc
    by_cases hq : q < M.size
    · rw [cutK_get (b := b) mem.length (by rw [h.len]; exact hq)]
      by_cases e : c = mem.length
      · rw [if_pos e]
        constructor
        · intro h1; exact ⟨hq, by rw [if_pos h1]; exact e.symm⟩
        · rintro ⟨_, h1⟩
          by_cases h2 : q ∈ leave
          · exact h2
          · rw [if_neg h2] at h1
            have := h.part.rng q hq
            omega
      · rw [if_neg e]
        by_cases e2 : c = b
        · rw [if_pos e2]
          constructor
          · intro h1
            have := (hqb q ((hmem q).2 (.inl h1))).2
            exact ⟨hq, by rw [if_neg (hdis q h1), e2]; exact this⟩
          · rintro ⟨_, h1⟩
            by_cases h2 : q ∈ leave
            · rw [if_pos h2] at h1; exact absurd h1.symm e
            · rw [if_neg h2] at h1
              exact ((hmem q).1 ((h.me b q hb).2 ⟨hq, by rw [h1]; exact e2⟩)).resolve_right h2
        · rw [if_neg e2, h.me c q (by omega)]
          by_cases h2 : q ∈ leave
          · rw [if_pos h2]
            have := (hqb q ((hmem q).2 (.inr h2))).2
            constructor
            · rintro ⟨_, h3⟩; exact absurd (h3.symm.trans this) e2
            · rintro ⟨_, h3⟩; exact absurd h3.symm e
          · rw [if_neg h2]
    · constructor
      · intro h1
        exfalso
        have hx : ∀ d, d < mem.length → q ∈ mem.getD d [] → False := fun d hd h2 => hq ((h.me d q hd).1 h2).1
        split at h1
        · exact hx b hb ((hmem q).2 (.inr h1))
        · split at h1
          · exact hx b hb ((hmem q).2 (.inl h1))
          · exact hx c (by omega) h1
      · rintro ⟨h1, _⟩; exact absurd h1 hq
end
end Go.Proofs.Ytcmhginhfhiolaa
set_option linter.unusedVariables false
set_option linter.unusedSimpArgs false
namespace Go.Proofs.Ytcmhginhfhiolaa

def hitL (bk P : List Nat) (b : Nat) : List Nat := P.filter fun q => decide (bF bk q = b)
theorem hitL_snoc (bk P : List Nat) (q b : Nat) : hitL bk (P ++ [q]) b = if bF bk q = b then hitL bk P b ++ [q] else hitL bk P b := by
  unfold hitL
  rw [List.filter_append]
  by_cases h : bF bk q = b
  · rw [if_pos h, List.filter_cons, decide_eq_true h]; rfl
  · rw [if_neg h, List.filter_cons, decide_eq_false h]; simp
theorem hitL_le (bk P : List Nat) (b : Nat) : (hitL bk P b).length ≤ P.length := List.length_filter_le _ _
theorem hitL_mem {bk P : List Nat} {b q : Nat} : q ∈ hitL bk P b ↔ q ∈ P ∧ bF bk q = b := by
  unfold hitL
  rw [List.mem_filter]
  exact and_congr_right fun _ => ⟨of_decide_eq_true, decide_eq_true⟩
/-- The blocks that are touched. -/
structure TouchOk (bk P tl : List Nat) : Prop where
  nd : tl.Nodup
  me : ∀ b, b ∈ tl ↔ hitL bk P b ≠ []
theorem TouchOk.nil (bk : List Nat) : TouchOk bk [] [] := ⟨List.nodup_nil, fun b => by simp [hitL]⟩
theorem TouchOk.old {bk P tl : List Nat} (h : TouchOk bk P tl) {q : Nat} (hq : hitL bk P (bF bk q) ≠ []) : TouchOk bk (P ++ [q]) tl :=
  ⟨h.nd, fun b => by
    rw [h.me, hitL_snoc]
    split
    · rename_i e; subst e
      exact ⟨fun _ => by simp, fun _ => hq⟩
    · exact Iff.rfl⟩
theorem TouchOk.new {bk P tl : List Nat} (h : TouchOk bk P tl) {q : Nat} (hq : hitL bk P (bF bk q) = []) : TouchOk bk (P ++ [q]) (tl ++ [bF bk q]) :=
  ⟨by
    rw [List.nodup_append]
    refine ⟨h.nd, by simp, fun a ha c hc e => ?_⟩
    rw [List.mem_singleton] at hc
    exact (h.me a).1 ha (by rw [e, hc]; exact hq), fun b => by
    rw [List.mem_append, List.mem_singleton, h.me, hitL_snoc]
    split
    · rename_i e; subst e
      exact ⟨fun _ => by simp, fun _ => .inr rfl⟩
    · rename_i e
      exact ⟨fun h1 => h1.elim (fun h2 => h2) (fun h2 => absurd h2.symm e), fun h1 => .inl h1⟩⟩
/-- bf lists what leads to each state by input x. -/
structure PredOk (M : Mac) (x : Nat) (bf : List (List Nat)) : Prop where
  len : bf.length = M.size
  nd : ∀ t, t < M.size → (bf.getD t []).Nodup
  me : ∀ t q, t < M.size → (q ∈ bf.getD t [] ↔ q < M.size ∧ dl M q x = t)
def flat (bf : List (List Nat)) (T : List Nat) : List Nat := T.flatMap fun t => bf.getD t []
theorem flat_snoc (bf : List (List Nat)) (T : List Nat) (t : Nat) : flat bf (T ++ [t]) = flat bf T ++ bf.getD t [] := by
  unfold flat; rw [List.flatMap_append]; simp
theorem flat_mem {M : Mac} {x : Nat} {bf : List (List Nat)} (h : PredOk M x bf) {T : List Nat} (hT : ∀ t ∈ T, t < M.size) (q : Nat) : q ∈ flat bf T ↔ q < M.size ∧ dl M q x ∈ T := by
  unfold flat
  rw [List.mem_flatMap]
  constructor
  · rintro ⟨t, ht, hq⟩
    have := (h.me t q (hT t ht)).1 hq
    exact ⟨this.1, by rw [this.2]; exact ht⟩
  · rintro ⟨h1, h2⟩
    exact ⟨_, h2, (h.me _ q (hT _ h2)).2 ⟨h1, rfl⟩⟩
theorem flat_nodup {M : Mac} {x : Nat} {bf : List (List Nat)} (h : PredOk M x bf) : ∀ {T : List Nat}, T.Nodup → (∀ t ∈ T, t < M.size) → (flat bf T).Nodup
  | [], _, _ => List.nodup_nil
  | t :: T, hn, hT => by
    rw [List.nodup_cons] at hn
    have h1 := flat_nodup h (T := T) hn.2 fun s hs => hT s (List.mem_cons_of_mem _ hs)
    show (bf.getD t [] ++ flat bf T).Nodup
    rw [List.nodup_append]
    refine ⟨h.nd t (hT t List.mem_cons_self), h1, fun a ha c hc e => ?_⟩
    subst e
    have h2 := (h.me t a (hT t List.mem_cons_self)).1 ha
    have h3 := (flat_mem h (fun s hs => hT s (List.mem_cons_of_mem _ hs)) a).1 hc
    rw [h2.2] at h3
    exact hn.1 h3.2
theorem flat_lt {M : Mac} {x : Nat} {bf : List (List Nat)} (h : PredOk M x bf) {T : List Nat} (hT : ∀ t ∈ T, t < M.size) : ∀ q ∈ flat bf T, q < M.size := fun q hq => ((flat_mem h hT q).1 hq).1
/-- A prefix of what leads to the targets. -/
def pre (bf : List (List Nat)) (T : List Nat) (k j : Nat) : List Nat := flat bf (T.take k) ++ (bf.getD (T.getD k 0) []).take j
theorem pre_zero (bf : List (List Nat)) (T : List Nat) (k : Nat) : pre bf T k 0 = flat bf (T.take k) := by simp [pre]
theorem pre_succ (bf : List (List Nat)) (T : List Nat) {k j q : Nat} (hj : j < (bf.getD (T.getD k 0) []).length) (hq : (bf.getD (T.getD k 0) []).getD j 0 = q) : pre bf T k (j + 1) = pre bf T k j ++ [q] := by
  unfold pre
  rw [take_get hj hq, List.append_assoc]
theorem pre_all (bf : List (List Nat)) (T : List Nat) {k : Nat} (hk : k < T.length) : pre bf T k (bf.getD (T.getD k 0) []).length = flat bf (T.take (k + 1)) := by
  unfold pre
  rw [List.take_length, take_get hk rfl, flat_snoc]
/-- All prefixes are no longer than there are states. -/
theorem pre_len {M : Mac} {x : Nat} {bf : List (List Nat)} (h : PredOk M x bf) {T : List Nat} (hn : T.Nodup) (hT : ∀ t ∈ T, t < M.size) {k : Nat} (hk : k < T.length) (j : Nat) : (pre bf T k j).length ≤ M.size := by
  have h1 := nodup_lt (flat_nodup h (T := T.take (k + 1)) (hn.sublist (List.take_sublist _ _)) fun t ht => hT t (List.mem_of_mem_take ht)) (n := M.size) (flat_lt h fun t ht => hT t (List.mem_of_mem_take ht))
  rw [take_get hk rfl, flat_snoc, List.length_append] at h1
  unfold pre
  rw [List.length_append, List.length_take]
  omega
/-- The first k of the touched blocks are divided. -/
structure RefI (M : Mac) (x : Nat) (bk0 : List Nat) (mem0 : List (List Nat)) (T : Nat → Prop) (tl : List Nat) (k : Nat) (bk : List Nat) (mem : List (List Nat)) (wq : List Nat) (wts : List Bool) : Prop where
  st : PSt M bk mem wq wts
  hop : Hop M (bF bk) (fun b => b ∈ wq) T x
  le : mem0.length ≤ mem.length
  same : ∀ b, b < mem0.length → b ∉ tl.take k → mem.getD b [] = mem0.getD b []
  fine : ∀ p q, p < M.size → q < M.size → bF bk p = bF bk q → bF bk0 p = bF bk0 q
  unif : ∀ p q, p < M.size → q < M.size → bF bk p = bF bk q → bF bk0 p ∈ tl.take k ∨ bF bk0 p ∉ tl → (T (dl M p x) ↔ T (dl M q x))
section
variable {M : Mac} {x k b : Nat} {bk0 bk wq tl S stay leave P : List Nat} {mem0 mem : List (List Nat)} {wts : List Bool} {T : Nat → Prop}
theorem RefI.start (h : PSt M bk mem wq wts) (hop : Hop M (bF bk) (fun b => b ∈ wq) T x) (ht : TouchOk bk P tl) (hP : ∀ q, q ∈ P ↔ q < M.size ∧ T (dl M q x)) : RefI M x bk mem T tl 0 bk mem wq wts := by
  refine ⟨h, hop, Nat.le_refl _, fun _ _ _ => rfl, fun _ _ _ _ h => h, fun p q hp hq he hc => ?_⟩
  rcases hc with hc | hc
  · simp at hc
  · have hno : ∀ r, r < M.size → bF bk r = bF bk p → ¬ T (dl M r x) := fun r hr hrb ht' => by
      refine hc ((ht.me _).2 fun e => ?_)
      have : r ∈ hitL bk P (bF bk p) := hitL_mem.2 ⟨(hP r).2 ⟨hr, ht'⟩, hrb⟩
      rw [e] at this; cases this
    exact ⟨fun h1 => absurd h1 (hno p hp rfl), fun h1 => absurd h1 (hno q hq he.symm)⟩
theorem RefI.skip {wq0 : List Nat} {wts0 : List Bool} (h : RefI M x bk0 mem0 T tl k bk mem wq wts) (hk : k < tl.length) (hb : tl.getD k 0 = b) (hbl : b < mem0.length) (hn : tl.Nodup) (h0 : PSt M bk0 mem0 wq0 wts0) (hP : ∀ q, q ∈ P ↔ q < M.size ∧ T (dl M q x)) (hPn : P.Nodup)
    (hlen : (mem0.getD b []).length ≤ (hitL bk0 P b).length) : RefI M x bk0 mem0 T tl (k + 1) bk mem wq wts := by
  have htk := take_get hk hb
  refine ⟨h.st, h.hop, h.le, fun c hc hct => h.same c hc fun h1 => hct (by rw [htk]; exact List.mem_append_left _ h1), h.fine, fun p q hp hq he hc => ?_⟩
  by_cases hpb : bF bk0 p = b
  · have hqb : bF bk0 q = b := by rw [← h.fine p q hp hq he]; exact hpb
    have hall : ∀ r, r < M.size → bF bk0 r = b → T (dl M r x) := fun r hr hrb => by
      have := nodup_all (l := hitL bk0 P b) (m := mem0.getD b []) (hPn.filter _) (fun s hs => (h0.me b s hbl).2 ⟨((hP s).1 (hitL_mem.1 hs).1).1, (hitL_mem.1 hs).2⟩) hlen ((h0.me b r hbl).2 ⟨hr, hrb⟩)
      exact ((hP r).1 (hitL_mem.1 this).1).2
    exact ⟨fun _ => hall q hq hqb, fun _ => hall p hp hpb⟩
  · refine h.unif p q hp hq he ?_
    rcases hc with hc | hc
    · rw [htk, List.mem_append, List.mem_singleton] at hc
      exact .inl (hc.resolve_right hpb)
    · exact .inr hc
/-- Of a block that is not divided yet nothing has changed. -/
theorem RefI.blk {wq0 : List Nat} {wts0 : List Bool} (h : RefI M x bk0 mem0 T tl k bk mem wq wts) (hk : k < tl.length) (hb : tl.getD k 0 = b) (hbl : b < mem0.length) (hn : tl.Nodup) (h0 : PSt M bk0 mem0 wq0 wts0) :
    mem.getD b [] = mem0.getD b [] ∧ ∀ q, q < M.size → (bF bk q = b ↔ bF bk0 q = b) := by
  have hnt : b ∉ tl.take k := fun h1 => by
    have h2 : (tl.take (k + 1)).Nodup := hn.sublist (List.take_sublist _ _)
    rw [take_get hk hb, List.nodup_append] at h2
    exact h2.2.2 b h1 b (List.mem_singleton.2 rfl) rfl
  have hs := h.same b hbl hnt
  refine ⟨hs, fun q hq => ?_⟩
  have h1 := h.st.me b q (Nat.lt_of_lt_of_le hbl h.le)
  have h2 := h0.me b q hbl
  rw [hs] at h1
  constructor
  · intro h3; exact (h2.1 (h1.2 ⟨hq, h3⟩)).2
  · intro h3; exact (h1.1 (h2.2 ⟨hq, h3⟩)).2
theorem RefI.cut {wq0 : List Nat} {wts0 : List Bool} (h : RefI M x bk0 mem0 T tl k bk mem wq wts) (hk : k < tl.length) (hb : tl.getD k 0 = b) (hbl : b < mem0.length) (hn : tl.Nodup) (h0 : PSt M bk0 mem0 wq0 wts0) (hP : ∀ q, q ∈ P ↔ q < M.size ∧ T (dl M q x)) (hPn : P.Nodup) (htc : TouchOk bk0 P tl)
    (hM : M.Ok) (hT : Total M) (hx : x < M.ins) (hlen : (hitL bk0 P b).length < (mem0.getD b []).length) (hsd : Sides (natZ bk) b (mem.getD b []) (hitL bk0 P b) stay leave) :
    setL (setL (setL (natZ bk) (hitL bk0 P b) (-1)) stay (b : Int)) leave (mem.length : Int) = natZ (cutK bk leave b mem.length) ∧
    RefI M x bk0 mem0 T tl (k + 1) (cutK bk leave b mem.length) (((mem ++ [[]]).set b stay).set mem.length leave) (wq ++ [mem.length]) (wts ++ [true]) := by
  obtain ⟨hmb, hbb⟩ := h.blk hk hb hbl hn h0
  have hbm : b < mem.length := Nat.lt_of_lt_of_le hbl h.le
  have htk := take_get hk hb
  have hsub : ∀ q ∈ hitL bk0 P b, q ∈ mem.getD b [] := fun q hq => by
    rw [hmb]; exact (h0.me b q hbl).2 ⟨((hP q).1 (hitL_mem.1 hq).1).1, (hitL_mem.1 hq).2⟩
  have hne : hitL bk0 P b ≠ [] := (htc.me b).1 (by rw [← hb]; exact getD_mem _ _ hk)
  have hTS : ∀ q, q ∈ mem.getD b [] → (q ∈ hitL bk0 P b ↔ T (dl M q x)) := fun q hq => by
    have h1 := (h.st.me b q hbm).1 hq
    rw [hitL_mem, hP]
    exact ⟨fun h2 => h2.1.2, fun h2 => ⟨⟨h1.1, h2⟩, (hbb q h1.1).1 h1.2⟩⟩
  have hsep : ∀ p q, p ∈ hitL bk0 P b → q ∈ mem.getD b [] → q ∉ hitL bk0 P b → ¬ Sim M M p q := fun p q hp hq hqn => by
    have h1 := (h.st.me b q hbm).1 hq
    have h2 := (h.st.me b p hbm).1 (hsub p hp)
    exact h.hop.sep hM hT hx h2.1 h1.1 ((hTS p (hsub p hp)).1 hp) (fun h3 => hqn ((hTS q hq).2 h3))
  obtain ⟨hn1, hn2, hmem, hdis, hcr⟩ := h.st.sides hbm (hPn.filter _) hsub hsd
  obtain ⟨e1, hst⟩ := h.st.cut hbm (hPn.filter _) hsub hne (by rw [hmb]; exact hlen) hsep hsd
  have hcget : ∀ q, q < M.size → bF (cutK bk leave b mem.length) q = if q ∈ leave then mem.length else bF bk q := fun q hq => cutK_get _ (by rw [h.st.len]; exact hq)
  have hlb : ∀ q, q ∈ leave → bF bk q = b ∧ q ∈ mem.getD b [] := fun q hq => ⟨((h.st.me b q hbm).1 ((hmem q).2 (.inr hq))).2, (hmem q).2 (.inr hq)⟩
  have heq : ∀ p q, p < M.size → q < M.size → bF (cutK bk leave b mem.length) p = bF (cutK bk leave b mem.length) q → bF bk p = bF bk q ∧ (p ∈ leave ↔ q ∈ leave) := fun p q hp hq he => by
    have r1 := h.st.part.rng p hp
    have r2 := h.st.part.rng q hq
    rw [hcget p hp, hcget q hq] at he
    by_cases hpl : p ∈ leave <;> by_cases hql : q ∈ leave
    · exact ⟨by rw [(hlb p hpl).1, (hlb q hql).1], fun _ => hql, fun _ => hpl⟩
    · rw [if_pos hpl, if_neg hql] at he
      omega
    · rw [if_neg hpl, if_pos hql] at he
      omega
    · rw [if_neg hpl, if_neg hql] at he
      exact ⟨he, fun h1 => absurd h1 hpl, fun h1 => absurd h1 hql⟩
  refine ⟨e1, hst, ?_, by simp; have := h.le; omega, fun c hc hct => ?_, fun p q hp hq he => h.fine p q hp hq (heq p q hp hq he).1, fun p q hp hq he hc => ?_⟩
  · haveI : DecidablePred (fun q => q ∈ leave) := fun q => inferInstance
    refine (h.hop.cut (b := b) (Lv := fun q => q ∈ leave) (wt' := fun c => c ∈ wq ++ [mem.length]) h.st.part hM hT (fun c _ hc => List.mem_append_left _ hc) (List.mem_append_right _ (List.mem_singleton.2 rfl)) (fun hc => List.mem_append_left _ hc)).congr hM hT fun q hq => ?_
    rw [hcget q hq]
    unfold cutB
    by_cases h1 : q ∈ leave
    · rw [if_pos h1, if_pos ⟨(hlb q h1).1, h1⟩]
    · rw [if_neg h1, if_neg (fun h2 => h1 h2.2)]
  · rw [htk, List.mem_append, List.mem_singleton] at hct
    have h1 : c ≠ b := fun e => hct (.inr e)
    have h2 : c ≠ mem.length := by have := h.le; omega
    rw [getD_setR (by simp), if_neg h2, getD_setR (by simp; omega), if_neg h1, ← h.same c hc (fun e => hct (.inl e))]
    have h3 : c < mem.length := Nat.lt_of_lt_of_le hc h.le
    simp only [List.getD, List.getElem?_append]
    rw [if_pos h3]
  · obtain ⟨he1, he2⟩ := heq p q hp hq he
    by_cases hpb : bF bk0 p = b
    · have hpb1 := (hbb p hp).2 hpb
      have hqb1 : bF bk q = b := by rw [← he1]; exact hpb1
      have hpm := (h.st.me b p hbm).2 ⟨hp, hpb1⟩
      have hqm := (h.st.me b q hbm).2 ⟨hq, hqb1⟩
      rw [← hTS p hpm, ← hTS q hqm]
      by_cases hpl : p ∈ leave
      · have hql := he2.1 hpl
        rcases hsd with ⟨a1, a2⟩ | ⟨a1, a2⟩
        · rw [← a2]; exact ⟨fun _ => hql, fun _ => hpl⟩
        · have s1 := fun h2 => hdis p h2 hpl
          have s2 := fun h2 => hdis q h2 hql
          rw [a1] at s1 s2
          exact ⟨fun h3 => absurd h3 s1, fun h3 => absurd h3 s2⟩
      · have hql : q ∉ leave := fun h1 => hpl (he2.2 h1)
        have hps := ((hmem p).1 hpm).resolve_right hpl
        have hqs := ((hmem q).1 hqm).resolve_right hql
        rcases hsd with ⟨a1, a2⟩ | ⟨a1, a2⟩
        · rw [← a2]; exact ⟨fun h3 => absurd h3 hpl, fun h3 => absurd h3 hql⟩
        · rw [← a1]; exact ⟨fun _ => hqs, fun _ => hps⟩
    · refine h.unif p q hp hq he1 ?_
      rcases hc with hc | hc
      · rw [htk, List.mem_append, List.mem_singleton] at hc
        exact .inl (hc.resolve_right hpb)
      · exact .inr hc
theorem RefI.done (h : RefI M x bk0 mem0 T tl tl.length bk mem wq wts) : Hop M (bF bk) (fun b => b ∈ wq) T (x + 1) :=
  h.hop.next fun p q hp hq he => h.unif p q hp hq he (by
    rw [List.take_length]
    exact Classical.em _)
end
end Go.Proofs.Ytcmhginhfhiolaa
