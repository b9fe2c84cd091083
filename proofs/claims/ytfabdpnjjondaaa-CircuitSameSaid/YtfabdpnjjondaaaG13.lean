/-
  Walk of column, called with Compile's closure number 1.
-/
import Derived.Test.YtfabdpnjjondaaaG12
set_option linter.unusedVariables false
set_option linter.unusedSimpArgs false
namespace Go.Proofs.Ytfabdpnjjondaaa
open Go.RowKit
attribute [local go_sem] cell_alloc_old build_g1 build_g2 build_g3

/-- The cells of a column. -/
def cellsOf (val : Int → Int → Int) (prs : List (Int × Int)) : List Int := prs.map fun p => if p.1 = -1 then -1 else val p.1 p.2
theorem flat2_get : ∀ (ps : List (Int × Int)) (k j : Nat) (h : k < ps.length), j < 2 → (ps.flatMap pcells)[k * 2 + j]? = (pcells (ps.getD k (0, 0)))[j]?
  | [], k, j, h, _ => absurd h (Nat.not_lt_zero _)
  | g :: gs, 0, j, _, hj => by
    rw [List.flatMap_cons, List.getElem?_append_left (by simp [pcells]; omega)]
    simp
  | g :: gs, k + 1, j, h, hj => by
    rw [List.flatMap_cons, List.getElem?_append_right (by simp [pcells]; omega)]
    have e : (k + 1) * 2 + j - (pcells g).length = k * 2 + j := by simp [pcells]; omega
    rw [e, flat2_get gs k j (by simpa using h) hj]
    simp
theorem rows_get {w : World} {base : Nat} {R : Option Addr} {rc : Nat} {prs : List (Int × Int)} (h : w.ownsRow base 74 2 (.slice R prs.length rc) prs.length (prs.flatMap pcells)) (hm : prs.length ≤ 1000000) {k : Nat} (hk : k < prs.length) :
    ∃ b o p x, R = some ⟨b, o, none⟩ ∧ b < w.heap.size ∧ Hid (prs.getD k (0, 0) = (p, x)) ∧ w.cell? ⟨b, o + k * 2, none⟩ = some (.int .i64 p) ∧ w.cell? ⟨b, o + k * 2 + 1, none⟩ = some (.int .i64 x) := by
  obtain ⟨b, o, e, -, hl, hc⟩ := (Rd.own (D := fun _ => True) h (by omega) (fun _ _ => trivial)).2 (by omega)
  refine ⟨b, o, (prs.getD k (0, 0)).1, (prs.getD k (0, 0)).2, e, hl, hid rfl, ?_, ?_⟩
  · simpa using hc (k * 2 + 0) _ (by rw [flat2_get prs k 0 hk (by omega)]; rfl)
  · simpa [Nat.add_assoc] using hc (k * 2 + 1) _ (by rw [flat2_get prs k 1 hk (by omega)]; rfl)
theorem cells_below {w wr : World} (h : Below w.heap.size w wr) (hs : w.heap.size < wr.heap.size) (k : Nat) (u : Value) (o : Obj) : Below w.heap.size w ((wr.setCell ⟨w.heap.size, k, none⟩ u).alloc o) :=
  (h.setCell (p := ⟨w.heap.size, k, none⟩) (Nat.le_refl _) u).alloc (by simp; omega) o
theorem cells_block {wr : World} {b k : Nat} {zs : List Int} (h : wr.heap[b]? = some (.cells (zs.map (Value.int .i64)).toArray 3 (0, 0))) (x : Int) (o : Obj) :
    ((wr.setCell ⟨b, k, none⟩ (.int .i64 x)).alloc o).heap[b]? = some (.cells ((zs.set k x).map (Value.int .i64)).toArray 3 (0, 0)) := by
  have h1 := set_block h (i := k) (.int .i64 x)
  rw [Below.heap_alloc _ _ _ (lt_of_block h1), h1, List.map_set]
  simp
theorem cells_below2 {w wr : World} (h : Below w.heap.size w wr) (hs : w.heap.size < wr.heap.size) (k : Nat) (u u' : Value) (o : Obj) (n : Nat) : Below w.heap.size w ((((wr.setCell ⟨w.heap.size, k, none⟩ u).alloc o).drewN n).setCell ⟨w.heap.size, k, none⟩ u') :=
  (below_drewN (cells_below h hs k u o) n).setCell (p := ⟨w.heap.size, k, none⟩) (Nat.le_refl _) u'
theorem cells_block2 {wr : World} {b k : Nat} {zs : List Int} (h : wr.heap[b]? = some (.cells (zs.map (Value.int .i64)).toArray 3 (0, 0))) (x y : Int) (o : Obj) (n : Nat) :
    ((((wr.setCell ⟨b, k, none⟩ (.int .i64 y)).alloc o).drewN n).setCell ⟨b, k, none⟩ (.int .i64 x)).heap[b]? = some (.cells ((zs.set k x).map (Value.int .i64)).toArray 3 (0, 0)) := by
  have h1 : (((wr.setCell ⟨b, k, none⟩ (.int .i64 y)).alloc o).drewN n).heap[b]? = _ := cells_block h y o (k := k)
  rw [set_block h1 (i := k) (.int .i64 x), List.map_set, List.map_set]
  simp
theorem RdI_own {w : World} {base n c : Nat} {A : Option Addr} {xs : List Int} {P : Nat → Prop} (h : w.ownsRow base 3 1 (.slice A n c) n (xs.map (.int .i64))) (hn : n ≤ 140737488355328) : RdI w (fun b => P b ∨ some b = (Value.slice A n c).ownBlock) A c xs := by
  have hl : xs.length = n := by simpa using h.1
  subst hl
  refine Rd.mono (D := fun b => some b = (Value.slice A xs.length c).ownBlock) ?_ (fun b hb _ => .inr hb)
  rcases h.2 with ⟨hv, h0⟩ | ⟨g, cap, cur, hv, hb, hh, h1, h2, hsz, htk⟩
  · injection hv with _ _ hc
    have : xs = [] := List.eq_nil_of_length_eq_zero h0
    subst this hc
    exact RdI.nil w _ A (by omega)
  · have hA : A = some ⟨g, 0, none⟩ := by injection hv
    have hc : c = cap := by injection hv
    subst hA hc
    refine ⟨⟨by simp, hn, h1, h2⟩, fun hn => ⟨g, 0, rfl, rfl, lt_of_block hh, fun j u hu => ?_⟩⟩
    rw [← htk, List.getElem?_take] at hu
    split at hu
    · rw [Nat.zero_add]; exact block_cell hh (by simpa using hu)
    · cases hu
theorem cells_snoc {val : Int → Int → Int} {prs : List (Int × Int)} {zs : List Int} {k : Nat} {y : Int} (hl : zs.length = prs.length) (ht : zs.take k = (cellsOf val prs).take k) (hk : k < prs.length)
    (hy : (if (prs.getD k (0, 0)).1 = -1 then -1 else val (prs.getD k (0, 0)).1 (prs.getD k (0, 0)).2) = y) : (zs.set k y).take (k + 1) = (cellsOf val prs).take (k + 1) := by
  have e1 : (zs.set k y).take (k + 1) = zs.take k ++ [y] := by
    rw [List.take_succ_eq_append_getElem (by simp; omega), List.take_set_of_le (Nat.le_refl _)]
    simp
  have e2 : (cellsOf val prs).take (k + 1) = (cellsOf val prs).take k ++ [y] := by
    rw [List.take_succ_eq_append_getElem (by simp [cellsOf]; omega), ← hy]
    simp [cellsOf, List.getD, hk]
  rw [e1, e2, ht]

set_option maxHeartbeats 4000000 in
theorem column1_any {ib nl : Int} (val : Int → Int → Int) (W0 w : World) (bt bg bm bi : Nat) (st : Int) (vars : List Int) (gs : GS) (F : Dom) (A : Option Addr) (c : Nat) (R : Option Addr) (rc : Nat) (prs : List (Int × Int))
    (hN : NT W0 w bt bg st vars gs F A c (prs.length : Int) R rc prs) (hok : Ok ib nl gs) (hvars : ∀ j, j < vars.length → 0 ≤ vars.getD j 0 ∧ vars.getD j 0 < gs.length) (hlen : prs.length = 2 ^ vars.length) (hsm : prs.length ≤ 1000000)
    (hclo : ∀ W, Below w.heap.size w W → ∀ j, j < prs.length → (prs.getD j (0, 0)).1 ≠ -1 → Calls Try.prog 40 #[.int .i64 (prs.getD j (0, 0)).1, .int .i64 (prs.getD j (0, 0)).2, .pointer (some ⟨bm, 0, none⟩), .pointer (some ⟨bi, 0, none⟩)] W fun e w' =>
      e = .returned (.int .i64 (val (prs.getD j (0, 0)).1 (prs.getD j (0, 0)).2)) ∧ Drawn W w')
    (h01 : ∀ j, j < prs.length → (prs.getD j (0, 0)).1 ≠ -1 → val (prs.getD j (0, 0)).1 (prs.getD j (0, 0)).2 = 0 ∨ val (prs.getD j (0, 0)).1 (prs.getD j (0, 0)).2 = 1)
    (hl : (buildG gs (cellsOf val prs) vars).2.length ≤ 999000) :
    Calls Try.prog 39 #[.pointer (some ⟨bt, 0, none⟩), .func (.func 40) #[] #[.pointer (some ⟨bm, 0, none⟩), .pointer (some ⟨bi, 0, none⟩)]] w fun e w' =>
      e = .returned (.int .i64 (buildG gs (cellsOf val prs) vars).1) ∧ GPost w bg F (buildG gs (cellsOf val prs) vars).2 w' := by
  obtain ⟨i0, hi, hz0, hz1, hz2⟩ := info_parts int_info
  have hz2' : i0.bytes = 8 := hz2
  obtain ⟨c0, c1, c2, c3, c4, hbt, -, -, -⟩ := hN.cells
  have hmk := run_make_zrow (P := Try.prog) 23 3 i0 (.int .i64 0) 8 Try.underlying23 hi hz0 hz1 hz2 rfl .i64 .i64 prs.length (by omega) (by omega)
  have HN := hid hN
  have HOK := hid hok
  have HVR := hid hvars
  have HLEN := hid hlen
  have HCLO := hid hclo
  have H01 := hid h01
  have HL := hid hl
  clear hN hok hvars hlen hclo h01 hl
  go_enter Try.func39, Try.ntmps39
  go_wp2_with fail
  go_loopw [6, 7, 18] (fun _ _ t wr => ∃ (k : Nat) (zs : List Int), k ≤ prs.length ∧ t = .int .i64 (k : Int) ∧ zs.length = prs.length ∧ zs.take k = (cellsOf val prs).take k ∧ Below w.heap.size w wr ∧
    wr.heap[w.heap.size]? = some (.cells (zs.map (Value.int .i64)).toArray 3 (0, 0))) (fun _ _ t _ => prs.length - (intOf t).toNat)
  case atStart => exact ⟨0, List.replicate prs.length 0, Nat.zero_le _, rfl, by simp, by simp, by go_grown, by rw [heap_alloc_new]; simp [zrow]⟩
  case round =>
    obtain ⟨k, zs, hk, rfl, hzl, hzt, hbw, hbl⟩ := hrel
    have HBW := hid hbw
    have HBL := hid hbl
    have HZL := hid hzl
    have HZT := hid hzt
    have hws : w.heap.size < wr.heap.size := lt_of_block hbl
    by_cases hlt : k < prs.length
    · obtain ⟨b, o, p, x, rfl, hbb, HPX, hc0, hc1⟩ := rows_get (own_below HN.out.rown hbw) hsm hlt
      have hkk := block_cell hbl (i := k) (u := .int .i64 (zs.getD k 0)) (by simp [List.getElem?_map, List.getD, hzl, hlt])
      have hkf := block_free hbl (i := k)
      have hki : (k : Int) < prs.length := by omega
      clear hbw hbl hzl hzt
      by_cases hp : p = -1
      · have e1 : (p != -1) = false := by simp [hp]
        have HP := hid hp
        clear hp
        go_wp2_with fail
        go_roundw
        case rel => exact ⟨k + 1, zs.set k (-1), by omega, by go_num, by simp [HZL.out], cells_snoc HZL.out HZT.out hlt (by rw [HPX.out]; exact if_pos HP.out), cells_below HBW.out hws _ _ _, cells_block HBL.out _ _⟩
        case measure => simp [intOf]; omega
      · have e1 : (p != -1) = true := by simp [hp]
        have HP := hid hp
        clear hp
        have hk1 : ∀ W, Below w.heap.size w W → Calls Try.prog 40 #[.int .i64 p, .int .i64 x, .pointer (some ⟨bm, 0, none⟩), .pointer (some ⟨bi, 0, none⟩)] W fun e w' => e = .returned (.int .i64 (val p x)) ∧ Drawn W w' := fun W hW => by
          have := HCLO.out W hW k hlt (by rw [HPX.out]; exact HP.out)
          rw [HPX.out] at this
          exact this
        have HK1 := hid hk1
        clear hk1
        go_wp2_with fail
        refine (HK1.out _ (cells_below HBW.out hws _ _ _)).mono ?_
        rintro e w1 ⟨rfl, nq, rfl⟩
        go_wp2_with fail
        go_roundw
        case rel =>
          refine ⟨k + 1, zs.set k (val p x), by omega, by go_num, by simp [HZL.out], cells_snoc HZL.out HZT.out hlt (by rw [HPX.out]; exact if_neg HP.out), ?_, ?_⟩
          · exact cells_below2 HBW.out hws _ _ _ _ _
          · exact cells_block2 HBL.out _ _ _ _
        case measure => simp [intOf]; omega
    · obtain rfl : k = prs.length := by omega
      have hzs : zs = cellsOf val prs := by
        have e1 : zs.take prs.length = zs := List.take_of_length_le (by omega)
        have e2 : (cellsOf val prs).take prs.length = cellsOf val prs := List.take_of_length_le (by simp [cellsOf])
        rw [← e1, hzt, e2]
      subst hzs
      have hn2 := HN.out.below hbw
      obtain ⟨d0, d1, d2, d3, d4, hbt2, -, -, -⟩ := hn2.cells
      have hcl : (cellsOf val prs).length = prs.length := by simp [cellsOf]
      have hvl : vars.length ≤ 1000000 := by
        have h1 : vars.length < 2 ^ vars.length := Nat.lt_two_pow_self
        rw [← HLEN.out] at h1
        omega
      have hrc : RdI wr (fun b => b = w.heap.size ∨ some b = (Value.slice A vars.length c).ownBlock) (some ⟨w.heap.size, 0, none⟩) prs.length (cellsOf val prs) := by
        refine ⟨⟨by simp, by omega, by omega, by omega⟩, fun _ => ⟨_, 0, rfl, .inl rfl, hws, fun j u hu => ?_⟩⟩
        rw [Nat.zero_add]
        exact block_cell hbl (by simpa using hu)
      have hrv : RdI wr (fun b => b = w.heap.size ∨ some b = (Value.slice A vars.length c).ownBlock) A c vars := by
        have h1 := hn2.own
        exact RdI_own h1 (by omega)
      have hb := build_any (ib := ib) (nl := nl) bt bg vars wr gs F (fun b => b = w.heap.size ∨ some b = (Value.slice A vars.length c).ownBlock) (some ⟨w.heap.size, 0, none⟩) A prs.length c (cellsOf val prs) hn2.gat HOK.out d0 hn2.nbt hrc hrv
        (fun b hb hf => by
          rcases hb with rfl | hb
          · have := HN.out.gat.lt hf; omega
          · exact hn2.nown b hf hb) HVR.out
        (fun j hj => by
          rw [hcl] at hj
          have := H01.out j hj
          simp only [cellsOf, List.getD, List.getElem?_map, List.getElem?_eq_getElem hj, Option.map_some, Option.getD_some] at this ⊢
          split
          · exact .inl rfl
          · exact .inr (this ‹_›)) (by rw [hcl]; exact HLEN.out) HL.out
      rw [hcl] at hb
      have HB := hid hb
      have HBW2 := hid hbw
      clear hb hn2 hrc hrv hcl d1 d3 d4 hbw hbl hzl hzt HZT
      go_wp2_with fail
      refine HB.out.mono ?_
      rintro e w1 ⟨rfl, hp⟩
      have HP := hid (GPost.after HBW2.out hp)
      clear hp
      go_wp2_with fail
      go_ret
      exact ⟨rfl, HP.out⟩
end Go.Proofs.Ytfabdpnjjondaaa
