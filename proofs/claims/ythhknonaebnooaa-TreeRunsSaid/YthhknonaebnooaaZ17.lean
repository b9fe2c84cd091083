/-
  Walk of the reference: Sorted.
  Walk of the reference: keep.
  Taking out what is below a node, plain.
  Walk of the reference: flash.
  Walk of the reference: trimmed.
  Walk of the reference: named.
-/
import Derived.Test.YthhknonaebnooaaZ16
import Derived.Test.YthhknonaebnooaaZ03
set_option linter.unusedVariables false
set_option linter.unusedSimpArgs false
namespace Go.Proofs.Ythhknonaebnooaa
open Go.RowKit
attribute [local go_sem] cell_alloc_old

theorem int_form {w : World} {base n c : Nat} {A : Option Addr} {xs : List Value} {e : TypeId} {size : Nat} (h : w.ownsRow base e size (.slice A n c) n xs) (h0 : 0 < n) : ∃ g, A = some ⟨g, 0, none⟩ ∧ base ≤ g ∧ g < w.heap.size := by
  rcases h.2 with ⟨hv, hx⟩ | ⟨g, cap, cur, hv, h1, hh, h3⟩
  · exfalso
    injection hv with _ e _
    omega
  · injection hv with e _ _
    exact ⟨g, e, h1, lt_of_block hh⟩
theorem int_at {w : World} {base g n c : Nat} {xs : List Int} (h : w.ownsRow base 3 1 (.slice (some ⟨g, 0, none⟩) n c) n (xs.map (.int .i64))) (hn : n = xs.length) {j : Nat} (hj : j < n) : w.cell? ⟨g, j, none⟩ = some (.int .i64 (xs.getD j 0)) ∧ w.frozen? ⟨g, j, none⟩ = false := by
  refine ⟨?_, h.frozenAt _⟩
  rw [h.cellAt _ (by omega)]
  simp [List.getD, show j < xs.length by omega]
theorem below_set {B g j : Nat} {w w' : World} (h : Below B w w') (hg : B ≤ g) (u : Value) : Below B w (w'.setCell ⟨g, j, none⟩ u) := h.trans ⟨rfl, rfl, rfl, by simp, fun k hk => Below.heap_setCell _ _ _ _ (by show k ≠ g; omega)⟩
set_option maxRecDepth 100000 in
set_option maxHeartbeats 4000000 in
theorem rsorted_any {D : Dom} (A : Option Addr) (c : Nat) (l : List Int) (w : World) (h : RdI w D A c l) (hll : l.length ≤ 100000) :
    Calls Try.prog 44 #[.slice A l.length c] w fun e w' => ∃ A' c', e = .returned (.slice A' (sortZ l).length c') ∧ Below w.heap.size w w' ∧ RdI w' (fun k => w.heap.size ≤ k) A' c' (sortZ l) := by
  obtain ⟨i0, hti, hz0, hz1, hz2⟩ := info_parts int_info
  have HR := hid h.old
  clear h
  go_enter Try.func44, Try.ntmps44
  go_upto_region 2 with (fail)
  refine wp_gen fun W hW => ?_
  have HB := hid (show Below w.heap.size w W by rw [hW]; go_grown)
  have HO := hid (show W.ownsRow w.heap.size 3 1 (.slice (some ⟨w.heap.size, 0, none⟩) 0 0) 0 ((sortZ (l.take 0)).map (.int .i64)) by rw [hW]; exact own_lit0 _ _ _)
  clear hW
  go_wp2_with fail
  go_loopw [3, 4] (fun s t wr => ∃ (k : Nat) (A' : Option Addr) (c' : Nat), k ≤ l.length ∧ t = .int .i64 (k : Int) ∧ s = .slice A' k c' ∧ wr.ownsRow w.heap.size 3 1 (.slice A' k c') k ((sortZ (l.take k)).map (.int .i64)) ∧ Below w.heap.size w wr) (fun _ t _ => l.length - (intOf t).toNat)
  case atStart => exact ⟨0, _, 0, Nat.zero_le _, rfl, rfl, HO.out, HB.out⟩
  case round =>
    obtain ⟨k, A', c', hk, rfl, rfl, ho, hb⟩ := hrel
    have HOX := hid ho
    have HBX := hid hb
    have hszr := hb.size
    clear ho hb
    by_cases hlt : k < l.length
    · obtain ⟨b, o, x, rfl, _, hbl, HX, h0⟩ := (HR.out.keep (Keeps.of_below HBX.out fun _ h => h)).get hlt
      have hki : (k : Int) < l.length := by omega
      obtain ⟨S, hS⟩ : ∃ S, S = sortZ (l.take k) := ⟨_, rfl⟩
      have hSl : S.length = k := by rw [hS, sortZ_len, List.length_take]; omega
      have hSs : S.Pairwise (· ≤ ·) := by rw [hS]; exact (sortZ_both _ _ rfl).2
      have hnx : sortZ (l.take (k + 1)) = sortIn x S := by rw [take_succ_getD l 0 hlt, HX.out, sortZ_snoc, ← hS]
      rw [← hS] at HOX
      have HSS := hid (And.intro hSl hSs)
      have HNX := hid hnx
      clear hS hSs hnx
      go_upto_region 7 with (at_builtin; go_must (refine wpList_append_rd _ rfl (.tmp 15) (.tmp 20) 22 rfl w.heap.size 3 i0 _ 1 8 Try.underlying22 hti hz0 hz1 hz2 rfl (by omega) (.slice A' k c') k _ rfl (HOX.out.alloc _) _ (some ⟨wr.heap.size, 0, none⟩) 1 1 _ rfl (Rd.cell1 (cell_new wr _ _ _ _ _ rfl rfl)) (by simp [Value.oneCell']) (by omega) (maxLen_le (by omega)) (by simp; omega) ?_); intro A5 c5 w5 hown5 hg5 hat5)
      have hb5 := Below.grown (B := w.heap.size) (HBX.out.trans ((show Below wr.heap.size wr _ from by go_grown).mono hszr)) hg5 (by simp; omega) (fun k hk => (HOX.out.lt k hk).1)
      have HO5 : Hid (w5.ownsRow w.heap.size 3 1 (.slice A5 (k + 1) c5) (k + 1) ((goneTo S x k).map (.int .i64))) := hid (by
        have e : goneTo S x k = S ++ [x] := by unfold goneTo; rw [← hSl]; simp
        rw [e, List.map_append]; exact hown5)
      have HB5 := hid hb5
      obtain ⟨g, rfl, hgl, hgl2⟩ := int_form hown5 (by omega)
      clear hown5 hg5 hat5 hb5 hgl2
      go_loopw [5] (fun q wr => ∃ j : Nat, j ≤ k ∧ q = .int .i64 (j : Int) ∧ wr.ownsRow w.heap.size 3 1 (.slice (some ⟨g, 0, none⟩) (k + 1) c5) (k + 1) ((goneTo S x j).map (.int .i64)) ∧ Below w.heap.size w wr ∧ ∀ y ∈ S.drop j, x < y) (fun q _ => (intOf q).toNat)
      case atStart => exact ⟨k, Nat.le_refl _, rfl, HO5.out, HB5.out, fun y hy => by rw [List.drop_eq_nil_of_le (by omega)] at hy; cases hy⟩
      case round =>
        obtain ⟨j, hj, rfl, ho, hb, hgt⟩ := hrel
        have HOJ := hid ho
        have HBJ := hid hb
        have HGT := hid hgt
        have hjl : (goneTo S x j).length = k + 1 := by rw [goneTo_len S x (by omega), hSl]
        obtain ⟨c1, f1⟩ := int_at ho hjl.symm (show j < k + 1 by omega)
        rw [goneTo_at S x (by omega)] at c1
        rcases Nat.eq_zero_or_pos j with h00 | h00
        · have d1 : decide ((0 : Int) < (j : Int)) = false := decide_eq_false (by omega)
          have d2 : ¬ 0 < j := by omega
          have HRES := hid (show goneTo S x j = sortIn x S from goneTo_done HSS.out.2 (by omega) hgt (fun h => absurd h d2))
          clear ho hb hgt hjl h00
          go_wp2_with fail
          go_quiet (fail)
          go_wp2_with fail
          go_roundw
          case rel =>
            refine ⟨k + 1, some ⟨g, 0, none⟩, c5, by omega, by go_num, rfl, ?_, HBJ.out.trans ((Drawn.n wr _).below _)⟩
            rw [HNX.out, ← HRES.out]
            exact own_below HOJ.out ((Drawn.n wr _).below _)
          case measure => simp [intOf]; omega
        · obtain ⟨j, rfl⟩ : ∃ j', j = j' + 1 := ⟨j - 1, by omega⟩
          obtain ⟨c2, f2⟩ := int_at ho hjl.symm (show j < k + 1 by omega)
          rw [goneTo_pre S x (by omega) (by omega)] at c2
          have d1 : decide ((0 : Int) < ((j + 1 : Nat) : Int)) = true := decide_eq_true (by omega)
          have d5 : ((j + 1 : Nat) : Int) - 1 = (j : Int) := by omega
          obtain ⟨y, hy⟩ : ∃ y, y = S.getD j 0 := ⟨_, rfl⟩
          rw [← hy] at c2
          by_cases hxy : x < y
          · have d3 : decide (x < y) = true := decide_eq_true hxy
            have hst : ∀ m, ((((wr.drewN m).setCell ⟨g, j, none⟩ (.int .i64 x)).setCell ⟨g, j + 1, none⟩ (.int .i64 y))).ownsRow w.heap.size 3 1 (.slice (some ⟨g, 0, none⟩) (k + 1) c5) (k + 1) ((goneTo S x j).map (.int .i64)) := fun m => by
              have h1 := ((((own_below ho ((Drawn.n wr m).below _)).stored j (.int .i64 x)).1).stored (j + 1) (.int .i64 y)).1
              rw [← goneTo_swap S x (by omega), List.map_set, List.map_set, ← hy]
              exact h1
            have hgj : ∀ y' ∈ S.drop j, x < y' := fun y' hy' => by
              rw [List.drop_eq_getElem_cons (by omega)] at hy'
              rcases List.mem_cons.1 hy' with rfl | h
              · have : y = S[j] := by rw [hy]; simp [List.getD, show j < S.length by omega]
                omega
              · exact hgt _ h
            have HST := hid hst
            have HGJ := hid hgj
            clear ho hb hgt hjl hst hgj hy h00
            go_wp2_with fail
            go_quiet (fail)
            go_wp2_with fail
            go_region
            go_wp2_with fail
            go_roundw
            case rel => exact ⟨j, by omega, by go_num, HST.out _, below_set (below_set (HBJ.out.trans ((Drawn.n wr _).below _)) hgl _) hgl _, HGJ.out⟩
            case measure => simp [intOf]
          · have d3 : decide (x < y) = false := decide_eq_false hxy
            have HRES := hid (show goneTo S x (j + 1) = sortIn x S from goneTo_done HSS.out.2 (by omega) hgt (fun h => by rw [Nat.add_sub_cancel, ← hy]; omega))
            clear ho hb hgt hjl hy h00
            go_wp2_with fail
            go_quiet (fail)
            go_wp2_with fail
            go_roundw
            case rel =>
              refine ⟨k + 1, some ⟨g, 0, none⟩, c5, by omega, by go_num, rfl, ?_, HBJ.out.trans ((Drawn.n wr _).below _)⟩
              rw [HNX.out, ← HRES.out]
              exact own_below HOJ.out ((Drawn.n wr _).below _)
            case measure => simp [intOf]; omega
    · have hke : l.take k = l := List.take_of_length_le (by omega)
      have hkl : k = (sortZ l).length := by rw [sortZ_len]; omega
      have HKE := hid (And.intro hke hkl)
      clear hke hkl
      go_wp2_with fail
      go_ret
      have ho := HOX.out
      rw [HKE.out.1] at ho
      refine ⟨A', c', ret_sl HKE.out.2, HBX.out, ?_⟩
      unfold RdI
      rw [← HKE.out.2]
      exact Rd.own ho (by omega) (fun _ h => h)
end Go.Proofs.Ythhknonaebnooaa
set_option linter.unusedVariables false
set_option linter.unusedSimpArgs false
namespace Go.Proofs.Ythhknonaebnooaa
open Go.RowKit
attribute [local go_sem] cell_alloc_old

/-- While keep runs: the nodes that are kept, and the places. -/
structure KpI (S : Dom) (w wr : World) (pb : Nat) (t : List Nd) (marked : Nat → Bool) (k : Nat) (A : Option Addr) (c : Nat) (L : List Nd) (sl : List (Option Addr × Nat)) : Prop where
  below : Below w.heap.size w wr
  lo : w.heap.size ≤ pb
  now : L = (keepTo t marked k).1
  len : sl.length = L.length
  own : wr.ownsRow w.heap.size 43 3 (.slice A L.length c) L.length (cellsN L sl)
  sold : ∀ i, i < L.length → RdI w S (sl.getD i (none, 0)).1 (sl.getD i (none, 0)).2 (nd L i).set
  pls : wr.heap[pb]? = some (.cells ((keepTo t marked k).2.map (.int .i64)).toArray 3 (0, 0))
theorem keepTo_len2 (t : List Nd) (marked : Nat → Bool) : ∀ k, (keepTo t marked k).2.length = t.length
  | 0 => by simp [keepTo]
  | k + 1 => by
    unfold keepTo
    split
    · rw [List.length_set]; exact keepTo_len2 t marked k
    · exact keepTo_len2 t marked k
theorem keepTo_len1 (t : List Nd) (marked : Nat → Bool) : ∀ k, (keepTo t marked k).1.length ≤ k
  | 0 => by simp [keepTo]
  | k + 1 => by
    have := keepTo_len1 t marked k
    unfold keepTo
    split
    · rw [List.length_append, List.length_singleton]; omega
    · omega
theorem keepTo_no {t : List Nd} {marked : Nat → Bool} {k : Nat} (h : marked k = false) : keepTo t marked (k + 1) = keepTo t marked k := by
  conv => lhs; unfold keepTo
  rw [if_neg (by rw [h]; decide)]
theorem KpI.mid {S : Dom} {w wr W3 : World} {pb : Nat} {t : List Nd} {marked : Nat → Bool} {k c : Nat} {A : Option Addr} {L : List Nd} {sl : List (Option Addr × Nat)} (h : KpI S w wr pb t marked k A c L sl) (hb : Below wr.heap.size wr W3) (j : Nat) (u : Value) : (W3.setCell ⟨pb, j, none⟩ u).ownsRow w.heap.size 43 3 (.slice A L.length c) L.length (cellsN L sl) :=
  ownsRow_setCell_other (own_below h.own hb) (own_ne (own_below h.own hb) ((hb.block _ (lt_of_block h.pls)).trans h.pls) (by decide)) _
theorem KpI.step {S : Dom} {w wr W3 W4 w5 : World} {pb : Nat} {t : List Nd} {marked : Nat → Bool} {k c c5 : Nat} {A A5 : Option Addr} {L : List Nd} {sl : List (Option Addr × Nat)} (h : KpI S w wr pb t marked k A c L sl) (hk : k < t.length) (hm : marked k = true) (hb : Below wr.heap.size wr W3)
    (hW4 : W4 = W3.setCell ⟨pb, k, none⟩ (.int .i64 (L.length : Int))) (o : Obj) (hg : (W4.alloc o).grownBy w5 (Value.slice A L.length c).ownBlock) {x' : Nd} {s : Option Addr × Nat} (hown : w5.ownsRow w.heap.size 43 3 (.slice A5 (L.length + 1) c5) (L.length + 1) (cellsN L sl ++ ncells x' s))
    (hset : RdI w S s.1 s.2 x'.set) (hx : x' = { nd t k with parent := if 0 ≤ (nd t k).parent then (keepTo t marked k).2.getD (nd t k).parent.toNat 0 else (nd t k).parent }) : KpI S w w5 pb t marked (k + 1) A5 c5 (L ++ [x']) (sl ++ [s]) := by
  have h4 := h.mid hb k (.int .i64 (L.length : Int))
  rw [← hW4] at h4
  have hpl := lt_of_block h.pls
  have hp3 := (hb.block _ hpl).trans h.pls
  have hp4 : W4.heap[pb]? = some (.cells (((keepTo t marked k).2.set k (L.length : Int)).map (.int .i64)).toArray 3 (0, 0)) := by
    rw [hW4, set_block hp3, List.map_set]; simp
  have hb4 : Below w.heap.size w W4 := by rw [hW4]; exact below_set (h.below.trans (hb.mono h.below.size)) h.lo _
  have hb4a : Below w.heap.size w (W4.alloc o) := hb4.trans ((Below.refl _ _).alloc hb4.size o)
  have hp4a : (W4.alloc o).heap[pb]? = some (.cells (((keepTo t marked k).2.set k (L.length : Int)).map (.int .i64)).toArray 3 (0, 0)) := ((((Below.refl W4.heap.size W4).alloc (Nat.le_refl _) o).block _ (lt_of_block hp4))).trans hp4
  have ho4a := h4.alloc o
  have hkt : keepTo t marked (k + 1) = ((keepTo t marked k).1 ++ [x'], (keepTo t marked k).2.set k ((keepTo t marked k).1.length : Int)) := by
    conv => lhs; unfold keepTo
    rw [if_pos hm, ← hx]
  have hl : (L ++ [x']).length = L.length + 1 := by simp
  refine ⟨hb4a.grown hg hb4a.size (fun j hj => (ho4a.lt j hj).1), h.lo, by rw [hkt, h.now], by simp [h.len], ?_, fun i hi => ?_, ?_⟩
  · rw [hl]
    have e : cellsN (L ++ [x']) (sl ++ [s]) = cellsN L sl ++ ncells x' s := by
      unfold cellsN
      rw [List.zip_append h.len.symm]
      simp
    rw [e]; exact hown
  · rw [hl] at hi
    unfold nd
    rw [getD_snoc L x' _ i hi, getD_snoc sl s _ i (by rw [h.len]; exact hi), h.len]
    split
    · exact hset
    · exact h.sold i (by omega)
  · rw [hkt]
    show _ = some (Obj.cells (((keepTo t marked k).2.set k ((keepTo t marked k).1.length : Int)).map (.int .i64)).toArray 3 (0, 0))
    rw [← h.now]
    exact (hg.block _ (lt_of_block hp4a) (fun e => own_ne ho4a hp4a (by decide) e.symm)).trans hp4a
/-- A slice of nodes, with the slices of their sets, which lie in S. -/
structure NR (w : World) (D S : Dom) (A : Option Addr) (c : Nat) (L : List Nd) (sl : List (Option Addr × Nat)) : Prop where
  len : sl.length = L.length
  cells : Rd w D 3 A L.length c (cellsN L sl)
  set : ∀ i, i < L.length → RdI w S (sl.getD i (none, 0)).1 (sl.getD i (none, 0)).2 (nd L i).set
theorem RdN.nr {w : World} {D : Dom} {A : Option Addr} {c : Nat} {t : List Nd} (h : RdN w D A c t) : ∃ sl, NR w D D A c t sl :=
  let ⟨sl, h0, h1, h2⟩ := h
  ⟨sl, h0, h1, h2⟩
theorem NR.rd {w : World} {D S : Dom} {A : Option Addr} {c : Nat} {t : List Nd} {sl : List (Option Addr × Nat)} (h : NR w D S A c t sl) : RdN w Any A c t :=
  ⟨sl, h.len, h.cells.mono fun _ _ _ => trivial, fun i hi => (h.set i hi).mono fun _ _ _ => trivial⟩
theorem NR.get {w : World} {D S : Dom} {A : Option Addr} {c : Nat} {t : List Nd} {sl : List (Option Addr × Nat)} (h : NR w D S A c t sl) {k : Nat} (hk : k < t.length) : ∃ b o A' c' x, A = some ⟨b, o, none⟩ ∧ D b ∧ b < w.heap.size ∧ Hid (t.getD k default = x) ∧ RdI w S A' c' x.set ∧
    w.cell? ⟨b, o + k * 3, none⟩ = some (.int .i64 x.name) ∧ w.cell? ⟨b, o + k * 3 + 1, none⟩ = some (.int .i64 x.parent) ∧ w.cell? ⟨b, o + k * 3 + 2, none⟩ = some (.slice A' x.set.length c') := by
  obtain ⟨h0, h1, h2⟩ := h
  obtain ⟨b, o, e, hb, hl, hc⟩ := h1.2 (by omega)
  have key : ∀ j, j < 3 → (cellsN t sl)[k * 3 + j]? = (ncells (nd t k) (sl.getD k (none, 0)))[j]? := fun j hj => by
    unfold cellsN
    rw [flat_at (default, ((none : Option Addr), 0)) (fun p : Nd × (Option Addr × Nat) => ncells p.1 p.2) 3 (fun _ => rfl) (t.zip sl) k j (by rw [List.length_zip, h0]; omega) hj, zip_get h0 hk]
  have c0 := hc (k * 3 + 0) _ (by rw [key 0 (by omega)]; rfl)
  have c1 := hc (k * 3 + 1) _ (by rw [key 1 (by omega)]; rfl)
  have c2 := hc (k * 3 + 2) _ (by rw [key 2 (by omega)]; rfl)
  exact ⟨b, o, _, _, nd t k, e, hb, hl, hid rfl, h2 k hk, by simpa using c0, by simpa [Nat.add_assoc] using c1, by simpa [Nat.add_assoc] using c2⟩
theorem anode_info : (Try.prog.info? 43).map (fun i => (i.zero, i.size, i.bytes)) = some (some (.agg #[.int .i64 0, .int .i64 0, .slice none 0 0]), 3, 40) := by kernel_rfl
/-- A slice of flags. -/
def RdF (w : World) (D : Dom) (A : Option Addr) (n c : Nat) (m : Nat → Bool) : Prop := Rd w D 1 A n c ((List.range n).map fun i => .bool (m i))
theorem RdF.get {w : World} {D : Dom} {A : Option Addr} {n c : Nat} {m : Nat → Bool} (h : RdF w D A n c m) {k : Nat} (hk : k < n) : ∃ b o, A = some ⟨b, o, none⟩ ∧ D b ∧ b < w.heap.size ∧ w.cell? ⟨b, o + k, none⟩ = some (.bool (m k)) := by
  obtain ⟨b, o, e, h1, h2, h3⟩ := h.2 (by omega)
  exact ⟨b, o, e, h1, h2, h3 k _ (by simp [hk])⟩
set_option maxRecDepth 100000 in
set_option maxHeartbeats 4000000 in
theorem keep_any {D E S : Dom} (A : Option Addr) (c : Nat) (t : List Nd) (sl0 : List (Option Addr × Nat)) (Ab : Option Addr) (cb : Nat) (marked : Nat → Bool) (w : World) (h : NR w D S A c t sl0) (hm : RdF w E Ab t.length cb marked) (htl : t.length ≤ 100000) (hup : Up t) :
    Calls Try.prog 42 #[.slice A t.length c, .slice Ab t.length cb] w fun e w' => ∃ A' c' sl, e = .returned (.slice A' (keepZ t marked).length c') ∧ Below w.heap.size w w' ∧ w'.ownsRow w.heap.size 43 3 (.slice A' (keepZ t marked).length c') (keepZ t marked).length (cellsN (keepZ t marked) sl) ∧ sl.length = (keepZ t marked).length ∧ ∀ i, i < (keepZ t marked).length → RdI w S (sl.getD i (none, 0)).1 (sl.getD i (none, 0)).2 (nd (keepZ t marked) i).set := by
  obtain ⟨i0, hti, hz0, hz1, hz2⟩ := info_parts int_info
  obtain ⟨i1, htn, hy0, hy1, hy2⟩ := info_parts anode_info
  have hz2' : i0.bytes = 8 := hz2
  have hmk := run_make_zrow (P := Try.prog) 22 3 i0 (.int .i64 0) 8 Try.underlying22 hti hz0 hz1 hz2 rfl .i64 .i64 t.length (by omega) (by omega)
  have HR := hid h
  have HM := hid (show RdF w (· < w.heap.size) Ab t.length cb marked from Rd.old hm)
  have HU := hid hup
  clear h hm hup
  go_enter Try.func42, Try.ntmps42
  go_upto_region 3 with (fail)
  refine wp_gen fun W hW => ?_
  have hM : KpI S w W (w.heap.size + 1) t marked 0 (some ⟨w.heap.size, 0, none⟩) 0 [] [] := by
    obtain ⟨w1, h1⟩ : ∃ w1, w1 = w.alloc (.cells #[] 43) := ⟨_, rfl⟩
    have s1 : w1.heap.size = w.heap.size + 1 := by rw [h1]; simp
    have m1 : ON w.heap.size w1 (some ⟨w.heap.size, 0, none⟩) 0 0 [] [] := by rw [h1]; exact ON.nil w
    have b1 : Below w.heap.size w w1 := by rw [h1]; go_grown
    rw [← h1] at hW
    have b2 : Below w1.heap.size w1 W := by rw [hW]; go_grown
    refine ⟨b1.trans (b2.mono b1.size), by omega, rfl, rfl, (m1.below b2).own, fun _ h => absurd h (Nat.not_lt_zero _), ?_⟩
    rw [hW, ← s1, heap_alloc_new]; simp [zrow, keepTo]
  have HM0 := hid hM
  obtain ⟨pb, hpb⟩ : ∃ pb, pb = w.heap.size + 1 := ⟨_, rfl⟩
  rw [← hpb] at HM0
  rw [← hpb]
  clear hW hM hpb hmk
  go_wp2_with fail
  go_loopw [5, 7] (fun s q wr => ∃ (k : Nat) (A' : Option Addr) (c' : Nat) (L : List Nd) (sl : List (Option Addr × Nat)), k ≤ t.length ∧ q = .int .i64 (k : Int) ∧ s = .slice A' L.length c' ∧ KpI S w wr pb t marked k A' c' L sl) (fun _ q _ => t.length - (intOf q).toNat)
  case atStart => exact ⟨0, _, 0, [], [], Nat.zero_le _, rfl, rfl, HM0.out⟩
  case round =>
    obtain ⟨k, A', c', L, sl, hk, rfl, rfl, hkp⟩ := hrel
    have HK := hid hkp
    have hbw := hkp.below
    have hpl := lt_of_block hkp.pls
    have hplo := hkp.lo
    have hLk : L.length ≤ k := by rw [hkp.now]; exact keepTo_len1 t marked k
    have HMW := hid (show RdF wr (· < w.heap.size) Ab t.length cb marked from Rd.keep HM.out (Keeps.of_below hbw fun _ h => h))
    have hsw := hbw.size
    have HBW := hid hbw
    clear hkp hbw
    by_cases hlt : k < t.length
    · have hkp : k < (keepTo t marked k).2.length := by rw [keepTo_len2]; exact hlt
      obtain ⟨bm, om, rfl, _, hbm, hcm⟩ := HMW.out.get hlt
      have hki : (k : Int) < t.length := by omega
      by_cases hmk : marked k = true
      · rw [hmk] at hcm
        obtain ⟨g, o, A2, c2, x, rfl, hgd, hgl, HX, hr, h0, h1, h2⟩ := HR.out.get hlt
        have h0 := (HBW.out.cell (p := ⟨g, o + k * 3, none⟩) hgl).trans h0
        have h1 := (HBW.out.cell (p := ⟨g, o + k * 3 + 1, none⟩) hgl).trans h1
        have h2 := (HBW.out.cell (p := ⟨g, o + k * 3 + 2, none⟩) hgl).trans h2
        have hnd : nd t k = x := HX.out
        have hux := HU.out k hlt
        rw [hnd] at hux
        have HRX := hid hr
        have HND := hid hnd
        have HMK := hid hmk
        clear hr hnd hmk
        go_upto_region 8 with (fail)
        refine wp_gen fun W2 hW2 => ?_
        have hb2 : Below wr.heap.size wr W2 := by rw [hW2]; go_grown
        have hx2 : W2.heap[wr.heap.size]? = some (.cells #[.int .i64 x.name, .int .i64 x.parent, .slice A2 x.set.length c2] 43 (0, 0)) := by rw [hW2]; exact heap_alloc_new wr _
        have hs2 : W2.heap.size = wr.heap.size + 1 := by rw [hW2]; simp
        have q0 := block_cell hx2 (i := 0) rfl
        have q1 := block_cell hx2 (i := 1) rfl
        have q2 := block_cell hx2 (i := 2) rfl
        have qf := block_free hx2 (i := 1)
        have hp2 := (hb2.block _ hpl).trans HK.out.pls
        clear hW2 h0 h1 h2
        by_cases hpar : 0 ≤ x.parent
        · obtain ⟨pn, hpn⟩ : ∃ pn : Nat, x.parent = (pn : Int) := ⟨x.parent.toNat, by omega⟩
          have hpnl : pn < t.length := by omega
          have hpni : (pn : Int) < t.length := by omega
          have hp2c := block_cell hp2 (i := pn) (u := .int .i64 ((keepTo t marked k).2.getD pn 0)) (by have := keepTo_len2 t marked k; simp [List.getD, show pn < (keepTo t marked k).2.length by omega])
          obtain ⟨p', hp'⟩ : ∃ p', p' = (keepTo t marked k).2.getD pn 0 := ⟨_, rfl⟩
          rw [← hp'] at hp2c
          rw [hpn] at q1 hpar
          have HPE := hid (And.intro hpn hp')
          have HB2 := hid hb2
          have HX2 := hid hx2
          have HP2 := hid hp2
          clear hp' hpn hb2 hx2 hp2 hux
          go_upto_region 10 with (fail)
          refine wp_gen fun W3 hW3 => ?_
          have hb3 : Below wr.heap.size wr W3 := by rw [hW3]; exact below_set HB2.out (Nat.le_refl _) _
          have hs3 : W3.heap.size = wr.heap.size + 1 := by rw [hW3]; simp; omega
          have hx3 : W3.heap[wr.heap.size]? = some (.cells #[.int .i64 x.name, .int .i64 p', .slice A2 x.set.length c2] 43 (0, 0)) := by rw [hW3, set_block HX2.out]; rfl
          have HPV : Hid ((⟨x.name, p', x.set⟩ : Nd) = { x with parent := if 0 ≤ x.parent then (keepTo t marked k).2.getD x.parent.toNat 0 else x.parent }) := hid (by rw [if_pos (by rw [HPE.out.1]; omega), HPE.out.1, Int.toNat_natCast, ← HPE.out.2])
          clear hW3 q0 q1 q2 qf hp2c
          have HX3 := hid hx3
          have HB3 := hid hb3
          have hs3' := hb3.size
          have hp3 := (hb3.block _ hpl).trans HK.out.pls
          have pf3 := block_free hp3 (i := k)
          have pc3 := block_cell hp3 (i := k) (u := .int .i64 ((keepTo t marked k).2.getD k 0)) (by simp [List.getD, hkp])
          clear hx3 hp3 hb3
          go_upto_region 11 with (fail)
          refine wp_gen fun W4 hW4 => ?_
          have hx4 : W4.heap[wr.heap.size]? = some (.cells #[.int .i64 x.name, .int .i64 p', .slice A2 x.set.length c2] 43 (0, 0)) := by
            rw [hW4]; exact (Below.heap_setCell _ _ _ _ (by show wr.heap.size ≠ pb; omega)).trans HX3.out
          have q0 := block_cell hx4 (i := 0) rfl
          have q1 := block_cell hx4 (i := 1) rfl
          have q2 := block_cell hx4 (i := 2) rfl
          have hb4 := HK.out.mid HB3.out k (.int .i64 (L.length : Int))
          rw [← hW4] at hb4
          have hs4 : w.heap.size ≤ W4.heap.size := by rw [hW4]; simp; omega
          have HW4 := hid hW4
          have HON4 := hid hb4
          clear hW4 hx4 hb4 pc3 pf3
          go_wp2_with (at_builtin; go_must (refine wpList_append_rd _ rfl (.tmp 42) (.tmp 44) 26 rfl w.heap.size 43 i1 _ 3 40 Try.underlying26 htn hy0 hy1 hy2 rfl (by omega) (.slice A' L.length c') L.length _ rfl (HON4.out.alloc _) _ (some ⟨W4.heap.size, 0, none⟩) 1 1 _ rfl (Rd.fresh (D := fun _ => True) rfl trivial rfl (by omega)) (by simp [Value.oneCell']) (by omega) (maxLen_le (by omega)) (by simp; omega) ?_); intro A5 c5 w5 hown5 hg5 hat5)
          have hk5 := HK.out.step hlt HMK.out HB3.out HW4.out _ hg5 (x' := ⟨x.name, p', x.set⟩) (s := (A2, c2)) hown5 HRX.out (by rw [HND.out]; exact HPV.out)
          have HK5 := hid hk5
          clear hown5 hg5 hat5 hk5
          go_roundw
          case rel => exact ⟨k + 1, A5, c5, _, _, by omega, by go_num, by rw [List.length_append]; rfl, HK5.out⟩
          case measure => simp [intOf]; omega
        · obtain ⟨p', hp'⟩ : ∃ p', p' = x.parent := ⟨_, rfl⟩
          rw [← hp'] at q1 hx2 hpar
          have HPV : Hid ((⟨x.name, p', x.set⟩ : Nd) = { x with parent := if 0 ≤ x.parent then (keepTo t marked k).2.getD x.parent.toNat 0 else x.parent }) := hid (by rw [if_neg (by rw [← hp']; exact hpar), hp'])
          have hpd : decide (0 ≤ p') = false := decide_eq_false hpar
          have HB2 := hid hb2
          have HX2 := hid hx2
          clear hp' hb2 hx2 hp2 hux
          go_upto_region 10 with (fail)
          refine wp_gen fun W3 hW3 => ?_
          have hb3 : Below wr.heap.size wr W3 := by rw [hW3]; exact HB2.out
          have hs3 : W3.heap.size = wr.heap.size + 1 := by rw [hW3]; exact hs2
          have hx3 : W3.heap[wr.heap.size]? = some (.cells #[.int .i64 x.name, .int .i64 p', .slice A2 x.set.length c2] 43 (0, 0)) := by rw [hW3]; exact HX2.out
          clear hW3 q0 q1 q2 qf
          have HX3 := hid hx3
          have HB3 := hid hb3
          have hs3' := hb3.size
          have hp3 := (hb3.block _ hpl).trans HK.out.pls
          have pf3 := block_free hp3 (i := k)
          have pc3 := block_cell hp3 (i := k) (u := .int .i64 ((keepTo t marked k).2.getD k 0)) (by simp [List.getD, hkp])
          clear hx3 hp3 hb3
          go_upto_region 11 with (fail)
          refine wp_gen fun W4 hW4 => ?_
          have hx4 : W4.heap[wr.heap.size]? = some (.cells #[.int .i64 x.name, .int .i64 p', .slice A2 x.set.length c2] 43 (0, 0)) := by
            rw [hW4]; exact (Below.heap_setCell _ _ _ _ (by show wr.heap.size ≠ pb; omega)).trans HX3.out
          have q0 := block_cell hx4 (i := 0) rfl
          have q1 := block_cell hx4 (i := 1) rfl
          have q2 := block_cell hx4 (i := 2) rfl
          have hb4 := HK.out.mid HB3.out k (.int .i64 (L.length : Int))
          rw [← hW4] at hb4
          have hs4 : w.heap.size ≤ W4.heap.size := by rw [hW4]; simp; omega
          have HW4 := hid hW4
          have HON4 := hid hb4
          clear hW4 hx4 hb4 pc3 pf3
          go_wp2_with (at_builtin; go_must (refine wpList_append_rd _ rfl (.tmp 42) (.tmp 44) 26 rfl w.heap.size 43 i1 _ 3 40 Try.underlying26 htn hy0 hy1 hy2 rfl (by omega) (.slice A' L.length c') L.length _ rfl (HON4.out.alloc _) _ (some ⟨W4.heap.size, 0, none⟩) 1 1 _ rfl (Rd.fresh (D := fun _ => True) rfl trivial rfl (by omega)) (by simp [Value.oneCell']) (by omega) (maxLen_le (by omega)) (by simp; omega) ?_); intro A5 c5 w5 hown5 hg5 hat5)
          have hk5 := HK.out.step hlt HMK.out HB3.out HW4.out _ hg5 (x' := ⟨x.name, p', x.set⟩) (s := (A2, c2)) hown5 HRX.out (by rw [HND.out]; exact HPV.out)
          have HK5 := hid hk5
          clear hown5 hg5 hat5 hk5
          go_roundw
          case rel => exact ⟨k + 1, A5, c5, _, _, by omega, by go_num, by rw [List.length_append]; rfl, HK5.out⟩
          case measure => simp [intOf]; omega
      · have hmk : marked k = false := by simpa using hmk
        rw [hmk] at hcm
        have hkt := keepTo_no (t := t) hmk
        have hk5 : KpI S w wr pb t marked (k + 1) A' c' L sl := by
          obtain ⟨k1, k2, k3, k4, k5, k6, k7⟩ := HK.out
          exact ⟨k1, k2, by rw [hkt]; exact k3, k4, k5, k6, by rw [hkt]; exact k7⟩
        have HK5 := hid hk5
        clear hmk hkt hk5
        go_wp2_with fail
        go_roundw
        case rel => exact ⟨k + 1, A', c', L, sl, by omega, by go_num, rfl, HK5.out⟩
        case measure => simp [intOf]; omega
    · obtain rfl : k = t.length := by omega
      have hnow : L = keepZ t marked := HK.out.now
      subst hnow
      go_wp2_with fail
      go_ret
      have hk := HK.out
      exact ⟨A', c', sl, rfl, hk.below, hk.own, hk.len, hk.sold⟩
end Go.Proofs.Ythhknonaebnooaa
set_option linter.unusedVariables false
set_option linter.unusedSimpArgs false
namespace Go.Proofs.Ythhknonaebnooaa

theorem mks_rank {m : Nat → Bool} {n k : Nat} (hk : k < (mks m n).length) : (mks m n).getD k 0 < n ∧ m ((mks m n).getD k 0) = true ∧ (mks m ((mks m n).getD k 0)).length = k := by
  have hmem : (mks m n).getD k 0 ∈ mks m n := by simp only [List.getD, List.getElem?_eq_getElem hk, Option.getD_some]; exact List.getElem_mem hk
  obtain ⟨h1, h2⟩ := mks_lt _ hmem
  obtain ⟨h3, h4⟩ := mks_at h1 h2
  refine ⟨h1, h2, ?_⟩
  have inc : ∀ i j, i < j → j < (mks m n).length → (mks m n).getD i 0 < (mks m n).getD j 0 := fun i j hij hj => by
    have := List.pairwise_iff_getElem.1 (mks_inc (m := m) (k := n)) i j (by omega) hj hij
    simpa [List.getD, hj, show i < (mks m n).length by omega] using this
  rcases Nat.lt_trichotomy (mks m ((mks m n).getD k 0)).length k with e | e | e
  · have := inc _ _ e hk; omega
  · exact e
  · have := inc _ _ e h3; omega
/-- Marks that hold for a parent with each child. -/
def Closed (L : List Nd) (m : Nat → Bool) : Prop := ∀ i, i < L.length → m i = true → 0 ≤ (nd L i).parent → m (nd L i).parent.toNat = true
theorem keep_nd {L : List Nd} {m : Nat → Bool} (hu : Up L) (hm : Closed L m) {k : Nat} (hk : k < (mks m L.length).length) : nd (keepZ L m) k = kp L m ((mks m L.length).getD k 0) := by
  rw [keepZ_eq hu hm]
  unfold nd
  simp [List.getD, hk]
theorem keep_len {L : List Nd} {m : Nat → Bool} (hu : Up L) (hm : Closed L m) : (keepZ L m).length = (mks m L.length).length := by rw [keepZ_eq hu hm, List.length_map]
theorem keep_up {L : List Nd} {m : Nat → Bool} (hu : Up L) (hm : Closed L m) : Up (keepZ L m) := fun k hk => by
  rw [keep_len hu hm] at hk
  rw [keep_nd hu hm hk]
  obtain ⟨h1, h2, h3⟩ := mks_rank hk
  have hp := hu _ h1
  unfold kp
  show -1 ≤ (if 0 ≤ (nd L ((mks m L.length).getD k 0)).parent then ((mks m (nd L ((mks m L.length).getD k 0)).parent.toNat).length : Int) else (nd L ((mks m L.length).getD k 0)).parent) ∧ (if 0 ≤ (nd L ((mks m L.length).getD k 0)).parent then ((mks m (nd L ((mks m L.length).getD k 0)).parent.toNat).length : Int) else (nd L ((mks m L.length).getD k 0)).parent) < (k : Int)
  split
  · rename_i h0
    have hmp := hm _ h1 h2 h0
    have h4 := (mks_at (show (nd L ((mks m L.length).getD k 0)).parent.toNat < (mks m L.length).getD k 0 by omega) hmp).1
    omega
  · omega
/-- What is not below node i. -/
def offU (L : List Nd) (i k : Nat) : Bool := !belowZ L k i
theorem below_par {L : List Nd} (hu : Up L) {i k : Nat} (hk : k < L.length) : belowZ L k i = (decide (0 ≤ (nd L k).parent) && (decide ((nd L k).parent = (i : Int)) || belowZ L (nd L k).parent.toNat i)) := by
  have h1 := below_atUp hu (i : Int) hk
  have e : belowZ L k i = belowN L (i : Int) L.length k := rfl
  rw [e, h1]
  unfold atUp
  by_cases h0 : 0 ≤ (nd L k).parent
  · have : ((nd L k).parent.toNat : Int) = (nd L k).parent := by omega
    unfold belowZ
    rw [this]
  · rw [decide_eq_false h0]; rfl
theorem offU_closed {L : List Nd} (hu : Up L) (i : Nat) : Closed L (offU L i) := fun k hk hm h0 => by
  unfold offU at hm ⊢
  rw [below_par hu hk, decide_eq_true h0] at hm
  simp only [Bool.true_and, Bool.not_or, Bool.and_eq_true] at hm
  exact hm.2
theorem offU_self {L : List Nd} (hu : Up L) (i : Nat) : ∀ k, k < L.length → k ≤ i → offU L i k = true := by
  intro k
  induction k using Nat.strongRecOn with
  | ind k ih =>
    intro hk hki
    unfold offU
    rw [below_par hu hk]
    by_cases h0 : 0 ≤ (nd L k).parent
    · have hp := (hu k hk).2
      have := ih (nd L k).parent.toNat (by omega) (by omega) (by omega)
      unfold offU at this
      rw [decide_eq_false (show ¬ (nd L k).parent = (i : Int) by omega)]
      simp only [Bool.not_eq_true'] at this
      rw [this]; simp
    · rw [decide_eq_false h0]; rfl
/-- What stays true while nodes go. -/
structure FOk (m : Nat) (n : Nat) (L : List Nd) : Prop where
  up : Up L
  len : L.length ≤ n
  set : ∀ k, k < L.length → (nd L k).set.length ≤ m
theorem mks_all_le (m : Nat → Bool) (n : Nat) : (mks m n).length ≤ n := by unfold mks; exact Nat.le_trans (List.length_filter_le _ _) (by simp)
theorem keep_ok {m n : Nat} {L : List Nd} (h : FOk m n L) {mk : Nat → Bool} (hm : Closed L mk) : FOk m n (keepZ L mk) := by
  refine ⟨keep_up h.up hm, ?_, fun k hk => ?_⟩
  · rw [keep_len h.up hm]; exact Nat.le_trans (mks_all_le _ _) h.len
  · rw [keep_len h.up hm] at hk
    rw [keep_nd h.up hm hk]
    exact h.set _ (mks_rank hk).1
theorem flashAt_ok {m n : Nat} {st : List Nd × List Int} (h : FOk m n st.1) (i : Nat) : FOk m n (flashAt st i).1 := by
  unfold flashAt
  split
  · exact keep_ok h (offU_closed h.up i)
  · exact h
theorem flashTo_ok {m n : Nat} {t : List Nd} (h : FOk m n t) : ∀ i, FOk m n (flashTo t i).1
  | 0 => h
  | i + 1 => flashAt_ok (flashTo_ok h i) i
theorem flashAt_done {st : List Nd × List Int} {i : Nat} (h : st.1.length ≤ i) : flashAt st i = st := by
  unfold flashAt
  rw [if_neg (by omega)]
theorem flashTo_done {t : List Nd} {i : Nat} (h : (flashTo t i).1.length ≤ i) : ∀ d, flashTo t (i + d) = flashTo t i
  | 0 => rfl
  | d + 1 => by
    show flashAt (flashTo t (i + d)) (i + d) = _
    rw [flashTo_done h d, flashAt_done (by omega)]
theorem flashTo_glen (t : List Nd) : ∀ i, (flashTo t i).2.length ≤ i
  | 0 => Nat.le_refl _
  | i + 1 => by
    show (flashAt (flashTo t i) i).2.length ≤ i + 1
    have := flashTo_glen t i
    unfold flashAt
    split
    · rw [List.length_append, List.length_singleton]; omega
    · omega
end Go.Proofs.Ythhknonaebnooaa
set_option linter.unusedVariables false
set_option linter.unusedSimpArgs false
namespace Go.Proofs.Ythhknonaebnooaa
open Go.RowKit
attribute [local go_sem] cell_alloc_old

/-- While flash runs: the nodes that are left, and the good names. -/
structure FlI (S : Dom) (B : Nat) (o0 : Option Nat) (w wr : World) (t : List Nd) (i : Nat) (A : Option Addr) (c : Nat) (L : List Nd) (sl : List (Option Addr × Nat)) (AG : Option Addr) (cG : Nat) (G : List Int) : Prop where
  below : Below w.heap.size w wr
  now : flashTo t i = (L, G)
  len : sl.length = L.length
  own : wr.ownsRow B 43 3 (.slice A L.length c) L.length (cellsN L sl)
  sold : ∀ k, k < L.length → RdI w S (sl.getD k (none, 0)).1 (sl.getD k (none, 0)).2 (nd L k).set
  ob : (Value.slice A L.length c).ownBlock = o0 ∨ ∀ k, some k = (Value.slice A L.length c).ownBlock → w.heap.size ≤ k
  og : wr.ownsRow w.heap.size 3 1 (.slice AG G.length cG) G.length (G.map (.int .i64))
theorem FlI.later {S : Dom} {B : Nat} {o0 : Option Nat} {w wr wr' : World} {t : List Nd} {i c cG : Nat} {A AG : Option Addr} {L : List Nd} {sl : List (Option Addr × Nat)} {G : List Int} (h : FlI S B o0 w wr t i A c L sl AG cG G) (hb : Below wr.heap.size wr wr') : FlI S B o0 w wr' t i A c L sl AG cG G :=
  ⟨h.below.trans (hb.mono h.below.size), h.now, h.len, own_below h.own hb, h.sold, h.ob, own_below h.og hb⟩
theorem FlI.nr {S : Dom} {B : Nat} {o0 : Option Nat} {w wr : World} {t : List Nd} {i c cG : Nat} {A AG : Option Addr} {L : List Nd} {sl : List (Option Addr × Nat)} {G : List Int} (h : FlI S B o0 w wr t i A c L sl AG cG G) (hS : ∀ k, S k → k < w.heap.size) (hn : L.length ≤ 140737488355328) : NR wr Any S A c L sl :=
  ⟨h.len, Rd.own h.own hn fun _ _ => trivial, fun k hk => (h.sold k hk).keep (Keeps.of_below h.below hS)⟩
/-- A good name more. -/
theorem FlI.good {S : Dom} {B : Nat} {o0 : Option Nat} {w wr w5 : World} {t : List Nd} {i c cG c5 : Nat} {A AG A5 : Option Addr} {L : List Nd} {sl : List (Option Addr × Nat)} {G : List Int} (h : FlI S B o0 w wr t i A c L sl AG cG G) (o : Obj) (hg : (wr.alloc o).grownBy w5 (Value.slice AG G.length cG).ownBlock) {z : Int}
    (hown : w5.ownsRow w.heap.size 3 1 (.slice A5 (G.length + 1) c5) (G.length + 1) (G.map (.int .i64) ++ [.int .i64 z])) (hB : B ≤ w.heap.size) :
    Below w.heap.size w w5 ∧ w5.ownsRow B 43 3 (.slice A L.length c) L.length (cellsN L sl) ∧ w5.ownsRow w.heap.size 3 1 (.slice A5 (G ++ [z]).length c5) (G ++ [z]).length ((G ++ [z]).map (.int .i64)) := by
  have ho := h.og.alloc o
  have hl := h.own.alloc o
  have hb6 : Below w.heap.size w (wr.alloc o) := h.below.trans ((Below.refl _ _).alloc h.below.size o)
  refine ⟨hb6.grown hg hb6.size (fun k hk => (ho.lt k hk).1), hl.kept hg ?_, by rw [List.length_append, List.length_singleton, List.map_append]; exact hown⟩
  rcases hl.2 with ⟨hv, _⟩ | ⟨g, cap, cur, hv, _, hh, _⟩
  · left; rw [hv]; rfl
  · right
    rw [hv]
    intro e
    exact own_ne ho hh (by decide) e.symm
theorem own_base {w : World} {base base' n size : Nat} {e : TypeId} {v : Value} {xs : List Value} (h : w.ownsRow base e size v n xs) (hb : base' ≤ base) : w.ownsRow base' e size v n xs :=
  ⟨h.1, h.2.imp id fun ⟨g, cap, cur, hv, h1, h3⟩ => ⟨g, cap, cur, hv, Nat.le_trans hb h1, h3⟩⟩
theorem RdI.unkeep {w w' : World} {S : Dom} {A : Option Addr} {c : Nat} {l : List Int} (h : RdI w' S A c l) (hb : Below w.heap.size w w') (hS : ∀ k, S k → k < w.heap.size) : RdI w S A c l :=
  ⟨h.1, fun h0 => by
    obtain ⟨b, o, e, h1, h2, h3⟩ := h.2 h0
    exact ⟨b, o, e, h1, hS b h1, fun j u hu => (hb.cell (p := ⟨b, o + j, none⟩) (hS b h1)).symm.trans (h3 j u hu)⟩⟩
theorem rdf_of {w : World} {g n : Nat} {m : Nat → Bool} (h : w.heap[g]? = some (.cells ((List.range n).map fun i => Value.bool (m i)).toArray 4 (0, 0))) (hn : n ≤ 100000) : RdF w Any (some ⟨g, 0, none⟩) n n m := by
  refine ⟨⟨by simp, by omega, Nat.le_refl _, by omega⟩, fun _ => ⟨g, 0, rfl, trivial, lt_of_block h, fun j u hu => ?_⟩⟩
  rw [Nat.zero_add]
  exact block_cell h (by simpa using hu)
set_option maxRecDepth 100000 in
set_option maxHeartbeats 4000000 in
theorem flash_any (B : Nat) (A : Option Addr) (c : Nat) (t : List Nd) (sl : List (Option Addr × Nat)) (w : World) (h : ON B w A t.length c t sl) (hB : B ≤ w.heap.size) (hok : FOk 3000 10000 t) :
    Calls Try.prog 41 #[.slice A t.length c] w fun e w' => ∃ A' c' sl' AG cG, e = .returned (.tuple #[.slice A' (flashZ t).1.length c', .slice AG (flashZ t).2.length cG]) ∧ Below w.heap.size w w' ∧ ON B w' A' (flashZ t).1.length c' (flashZ t).1 sl' ∧ w'.ownsRow w.heap.size 3 1 (.slice AG (flashZ t).2.length cG) (flashZ t).2.length ((flashZ t).2.map (.int .i64)) := by
  obtain ⟨i0, hti, hz0, hz1, hz2⟩ := info_parts int_info
  obtain ⟨i1, htb, hy0, hy1, hy2⟩ := info_parts bool_info
  have hy2' : i1.bytes = 1 := hy2
  obtain ⟨o0, ho0⟩ : ∃ o0, o0 = (Value.slice A t.length c).ownBlock := ⟨_, rfl⟩
  obtain ⟨S, hS⟩ : ∃ S : Dom, S = fun k => k < w.heap.size ∧ some k ≠ o0 := ⟨_, rfl⟩
  have hSl : ∀ k, S k → k < w.heap.size := fun k hk => by rw [hS] at hk; exact hk.1
  have hSo : ∀ k, S k → some k ≠ o0 := fun k hk => by rw [hS] at hk; exact hk.2
  have hsold : ∀ k, k < t.length → RdI w S (sl.getD k (none, 0)).1 (sl.getD k (none, 0)).2 (nd t k).set := fun k hk => (h.set k hk).mono fun j hj hl => by rw [hS]; exact ⟨hl, by rw [ho0]; exact hj⟩
  have HON := hid h
  have HOK := hid hok
  have HSL := hid (And.intro hSl hSo)
  have HBB := hid hB
  have HSOLD := hid hsold
  have HO0 := hid ho0
  clear h hok hSl hSo hsold ho0 hS hB
  have htl := HOK.out.len
  go_enter Try.func41, Try.ntmps41
  go_upto_region 2 with (fail)
  refine wp_gen fun W hW => ?_
  have hM : FlI S B o0 w W t 0 A c t sl (some ⟨w.heap.size, 0, none⟩) 0 [] := by
    have b1 : Below w.heap.size w W := by rw [hW]; go_grown
    refine ⟨b1, rfl, HON.out.len, own_below HON.out.own b1, HSOLD.out, .inl HO0.out.symm, ?_⟩
    rw [hW]; exact own_lit0 _ _ _
  have HM := hid hM
  clear hW hM
  go_wp2_with fail
  go_loopw [0, 4, 5] (fun tv s q wr => ∃ (i : Nat) (A' : Option Addr) (c' : Nat) (L : List Nd) (sl' : List (Option Addr × Nat)) (AG : Option Addr) (cG : Nat) (G : List Int), i ≤ t.length ∧ tv = .slice A' L.length c' ∧ s = .slice AG G.length cG ∧ q = .int .i64 (i : Int) ∧ FlI S B o0 w wr t i A' c' L sl' AG cG G) (fun _ _ q _ => t.length - (intOf q).toNat)
  case atStart => exact ⟨0, A, c, t, sl, _, 0, [], Nat.zero_le _, rfl, rfl, rfl, HM.out⟩
  case round =>
    obtain ⟨i, A', c', L, sl', AG, cG, G, hi, rfl, rfl, rfl, hf⟩ := hrel
    have HF := hid hf
    have hLok : FOk 3000 10000 L := by have := flashTo_ok HOK.out i; rw [hf.now] at this; exact this
    have hLl : L.length ≤ t.length := by
      have := flashTo_ok (m := 3000) (n := t.length) ⟨HOK.out.up, Nat.le_refl _, HOK.out.set⟩ i
      rw [hf.now] at this; exact this.len
    have hGl : G.length ≤ i := by have := flashTo_glen t i; rw [hf.now] at this; exact this
    have HLOK := hid hLok
    have hws := hf.below.size
    have hnr := hf.nr HSL.out.1 (by omega)
    have HNR := hid hnr
    clear hf hLok hnr
    by_cases hlt : i < L.length
    · have hii : (i : Int) < L.length := by omega
      obtain ⟨g, o, A2, c2, x, rfl, _, hgl, HX, hr, h0, h1, h2⟩ := HNR.out.get hlt
      have hnd : nd L i = x := HX.out
      obtain ⟨un, hun⟩ : ∃ un, un = (unionZ L (i : Int)).length := ⟨_, rfl⟩
      have HCALL : Hid (∀ W', Below wr.heap.size wr W' → Calls Try.prog 67 #[.slice (some ⟨g, o, none⟩) L.length c', .int .i64 (i : Int)] W' fun e w' => ∃ A' c', e = .returned (.slice A' un c') ∧ Below wr.heap.size wr w') := hid fun W' hb => by
        refine (union_any (some ⟨g, o, none⟩) c' L (i : Int) W' (HNR.out.rd.any hb) HLOK.out.len HLOK.out.set).mono ?_
        rintro e w' ⟨A', c', rfl, hb', _⟩
        exact ⟨A', c', by rw [hun], hb.trans (hb'.mono hb.size)⟩
      have HK0 : Hid (∀ W', Below wr.heap.size wr W' → W'.cell? ⟨g, o + i * 3 + 2, none⟩ = some (.slice A2 x.set.length c2)) := hid fun W' hb => (hb.cell (p := ⟨g, o + i * 3 + 2, none⟩) hgl).trans h2
      have HI1 := hid (show Below wr.heap.size wr wr.drew from (Below.refl _ _).drew)
      have HI2 := hid (show ∀ i, Below wr.heap.size wr (wr.drewN i) from fun i => (Drawn.n wr i).below _)
      have HND := hid hnd
      have HUN := hid hun
      clear hr h1 hnd hun
      by_cases hu : un < x.set.length
      · have hud : decide (un < x.set.length) = true := decide_eq_true hu
        have hui : decide ((un : Int) < (x.set.length : Int)) = true := decide_eq_true (by omega)
        have HU := hid hu
        clear hu h0
        go_upto_region 5 with (fail)
        go_region_held3 (fun W' => W'.cell? ⟨g, o + i * 3 + 2, none⟩ = some (.slice A2 x.set.length c2))
          (first | (with_reducible exact HK0.out _ hI) | (go_keep; done))
          ((go_at_call 67; refine (HCALL.out _ (by first | exact HI1.out | exact HI2.out _)).mono ?_; rintro e W9 ⟨A9, c9, rfl, hI⟩))
        all_goals
          have hf9 := HF.out.later hI
          have hnx : flashTo t (i + 1) = (L, G) := by
            show flashAt (flashTo t i) i = _
            rw [HF.out.now]
            unfold flashAt
            rw [if_neg (fun hh => by have h5 := hh.2; rw [HND.out, ← HUN.out] at h5; have := HU.out; omega)]
          have HF9 := hid (show FlI S B o0 w W9 t (i + 1) (some ⟨g, o, none⟩) c' L sl' AG cG G from ⟨hf9.below, hnx, hf9.len, hf9.own, hf9.sold, hf9.ob, hf9.og⟩)
          clear hI hf9 hnx
          go_wp2_with fail
          go_roundw
          case rel => exact ⟨i + 1, _, c', L, sl', AG, cG, G, by omega, rfl, rfl, by go_num, HF9.out⟩
          case measure => simp [intOf]; omega
      · have hud : decide (un < x.set.length) = false := decide_eq_false hu
        have hui : decide ((un : Int) < (x.set.length : Int)) = false := decide_eq_false (by omega)
        have HU := hid hu
        clear hu h0
        go_upto_region 5 with (fail)
        go_region_held3 (fun W' => W'.cell? ⟨g, o + i * 3 + 2, none⟩ = some (.slice A2 x.set.length c2))
          (first | (with_reducible exact HK0.out _ hI) | (go_keep; done))
          ((go_at_call 67; refine (HCALL.out _ (by first | exact HI1.out | exact HI2.out _)).mono ?_; rintro e W9 ⟨A9, c9, rfl, hI⟩))
        all_goals
          have HF9 := hid (HF.out.later hI)
          have hs9 := hI.size
          clear hI hws
          have hws := HF9.out.below.size
          have hnr := HF9.out.nr HSL.out.1 (by omega)
          have HNR9 := hid hnr
          clear hnr
          obtain ⟨g', o', A2', c2', x', hA', _, hgl', HX', hr', k0, k1, k2⟩ := HNR9.out.get hlt
          injection hA' with hA'
          injection hA' with e1 e2
          subst e1 e2
          obtain rfl : x = x' := by rw [← HX'.out]; exact HND.out.symm
          clear hr' k1 k2 HX' hgl'
          have hmk := run_make_zrow (P := Try.prog) 73 4 i1 (.bool false) 1 Try.underlying73 htb hy0 hy1 hy2 rfl .i64 .i64 L.length (by omega) (by omega)
          go_upto_region 7 with (at_builtin; go_must (refine wpList_append_rd _ rfl (.tmp 26) (.tmp 32) 22 rfl w.heap.size 3 i0 _ 1 8 Try.underlying22 hti hz0 hz1 hz2 rfl (by omega) (.slice AG G.length cG) G.length _ rfl (HF9.out.og.alloc _) _ (some ⟨W9.heap.size, 0, none⟩) 1 1 _ rfl (Rd.cell1 (cell_new W9 _ _ _ _ _ rfl rfl)) (by simp [Value.oneCell']) (by omega) (maxLen_le (by omega)) (by simp; omega) ?_); intro A5 c5 w5 hown5 hg5 hat5)
          obtain ⟨b5, l5, g5⟩ := HF9.out.good _ hg5 hown5 HBB.out
          have HB5 := hid b5
          have HL5 := hid l5
          have HG5 := hid g5
          have hs5 := b5.size
          clear hown5 hg5 hat5 b5 l5 g5 k0
          go_upto_region 8 with (fail)
          refine wp_gen fun W6 hW6 => ?_
          have hb6 : Below w5.heap.size w5 W6 := by rw [hW6]; go_grown
          have hlf : W6.heap[w5.heap.size]? = some (.cells ((List.range L.length).map fun j => Value.bool (decide (j < 0) && offU L i j)).toArray 4 (0, 0)) := by
            rw [hW6, heap_alloc_new]
            unfold zrow
            congr 2
            apply Array.toList_inj.1
            simp [List.map_const']
          have HLF := hid hlf
          have HB6 := hid hb6
          obtain ⟨lb, hlb⟩ : ∃ lb, lb = w5.heap.size := ⟨_, rfl⟩
          rw [← hlb] at HLF HB6 ⊢
          have HLB := hid hlb
          clear hW6 hb6 hlf hmk hlb
          go_wp2_with fail
          go_loopw [7] (fun q wr => ∃ k : Nat, k ≤ L.length ∧ q = .int .i64 (k : Int) ∧ wr.heap[lb]? = some (.cells ((List.range L.length).map fun j => Value.bool (decide (j < k) && offU L i j)).toArray 4 (0, 0)) ∧ Below lb w5 wr) (fun q _ => L.length - (intOf q).toNat)
          case atStart => exact ⟨0, Nat.zero_le _, rfl, HLF.out, HB6.out⟩
          case round =>
            obtain ⟨k, hk, rfl, hlf, hbk⟩ := hrel
            have HBK := hid hbk
            have hbk' : Below w5.heap.size w5 wr := by rw [← HLB.out]; exact hbk
            have hnr2 : NR wr Any S (some ⟨g, o, none⟩) c' L sl' := ⟨HF9.out.len, Rd.own (own_below HL5.out hbk') (by omega) fun _ _ => trivial, fun k hk => (HF9.out.sold k hk).keep (Keeps.of_below (HB5.out.trans (hbk'.mono hs5)) HSL.out.1)⟩
            have HNR2 := hid hnr2
            have hlbl := lt_of_block hlf
            clear hbk hbk' hnr2
            by_cases hkl : k < L.length
            · have hki : (k : Int) < L.length := by omega
              have z0 := block_cell hlf (i := k) (u := .bool (decide (k < k) && offU L i k)) (by simp [hkl])
              have z1 := block_free hlf (i := k)
              have HBL := hid (below_any (some ⟨g, o, none⟩) c' L k (i : Int) wr HNR2.out.rd HLOK.out.up hkl)
              have hset : (((List.range L.length).map fun j => Value.bool (decide (j < k) && offU L i j)).toArray).setIfInBounds k (.bool (!belowN L i L.length k)) = ((List.range L.length).map fun j => Value.bool (decide (j < k + 1) && offU L i j)).toArray := by
                apply Array.toList_inj.1
                rw [Array.toList_setIfInBounds]
                apply List.ext_getElem
                · simp
                · intro j h1 h2
                  simp only [List.length_map, List.length_range] at h2
                  rw [List.getElem_set]
                  by_cases e : k = j
                  · subst e
                    simp [offU, belowZ]
                  · rw [if_neg e]
                    simp only [List.getElem_toArray, List.getElem_map, List.getElem_range]
                    have : decide (j < k) = decide (j < k + 1) := by
                      by_cases hjk : j < k
                      · rw [decide_eq_true hjk, decide_eq_true (by omega)]
                      · rw [decide_eq_false hjk, decide_eq_false (by omega)]
                    rw [this]
              have HSET := hid hset
              have HLF2 := hid hlf
              clear hset hlf
              go_wp2_with fail
              refine HBL.out.mono ?_
              rintro e W10 ⟨rfl, rfl⟩
              go_wp2_with fail
              go_roundw
              case rel =>
                refine ⟨k + 1, by omega, by go_num, ?_, below_set HBK.out (Nat.le_refl _) _⟩
                rw [set_block HLF2.out, HSET.out]
              case measure => simp [intOf]; omega
            · have hke : k = L.length := by omega
              have hm : ((List.range L.length).map fun j => Value.bool (decide (j < k) && offU L i j)) = (List.range L.length).map fun j => Value.bool (offU L i j) := by
                refine List.map_congr_left fun j hj => ?_
                rw [decide_eq_true (by have := List.mem_range.1 hj; omega), Bool.true_and]
              rw [hm] at hlf
              have hrdf := rdf_of hlf (by omega)
              have HRDF := hid hrdf
              clear hm hrdf hlf hke
              go_wp2_with fail
              refine (keep_any (some ⟨g, o, none⟩) c' L sl' (some ⟨lb, 0, none⟩) L.length (offU L i) wr HNR2.out HRDF.out (by omega) HLOK.out.up).mono ?_
              rintro e W11 ⟨A7, c7, sl7, rfl, hb7, ho7, hl7, hs7⟩
              have hnx : flashTo t (i + 1) = (keepZ L (offU L i), G ++ [x.name]) := by
                show flashAt (flashTo t i) i = _
                rw [HF.out.now]
                unfold flashAt
                rw [if_pos ⟨hlt, by rw [HND.out, ← HUN.out]; have := HU.out; omega⟩, HND.out]
                rfl
              have hbk' : Below w5.heap.size w5 wr := by rw [← HLB.out]; exact HBK.out
              have hb57 : Below w5.heap.size w5 W11 := hbk'.trans (hb7.mono hbk'.size)
              have hwr : w.heap.size ≤ wr.heap.size := Nat.le_trans hs5 hbk'.size
              have hf7 : FlI S B o0 w W11 t (i + 1) A7 c7 (keepZ L (offU L i)) sl7 A5 c5 (G ++ [x.name]) := ⟨HB5.out.trans (hb57.mono hs5), hnx, hl7, own_base ho7 (Nat.le_trans HBB.out hwr), fun k hk => (hs7 k hk).unkeep (HB5.out.trans (hbk'.mono hs5)) HSL.out.1, .inr fun k hk => Nat.le_trans hwr (ho7.lt k hk.symm).1, own_below HG5.out hb57⟩
              have HF7 := hid hf7
              clear hb7 ho7 hl7 hs7 hnx hbk' hb57 hf7
              go_wp2_with fail
              go_roundw
              case rel => exact ⟨i + 1, A7, c7, keepZ L (offU L i), sl7, A5, c5, G ++ [x.name], by omega, rfl, by rw [List.length_append]; rfl, by go_num, HF7.out⟩
              case measure => simp [intOf]; omega
    · have hz : flashZ t = (L, G) := by
        have h1 := flashTo_done (t := t) (i := i) (by rw [HF.out.now]; show L.length ≤ i; omega) (t.length - i)
        rw [show i + (t.length - i) = t.length by omega, HF.out.now] at h1
        exact h1
      have HZ := hid hz
      clear hz
      go_wp2_with fail
      refine bodyPost_ret (v := .tuple #[.slice A' L.length c', .slice AG G.length cG]) (by simp [results, Try.results41, go_sem]) rfl ?_
      rw [HZ.out]
      refine ⟨A', c', sl', AG, cG, rfl, HF.out.below, ⟨HF.out.len, rfl, HF.out.own, fun k hk => (HNR.out.set k hk).mono fun j hj _ => ?_⟩, HF.out.og⟩
      rcases HF.out.ob with e | e
      · rw [e]; exact HSL.out.2 j hj
      · intro e2
        have h1 := e j e2
        have h2 := HSL.out.1 j hj
        omega
end Go.Proofs.Ythhknonaebnooaa
set_option linter.unusedVariables false
set_option linter.unusedSimpArgs false
namespace Go.Proofs.Ythhknonaebnooaa
open Go.RowKit
attribute [local go_sem] cell_alloc_old

def tstP (t : List Nd) (i : Nat) (s : Int) : Bool := decide (i = 0) || keptTo t i s i
theorem filt_snoc (P : Int → Bool) (l : List Int) {k : Nat} (hk : k < l.length) : (l.take (k + 1)).filter P = (l.take k).filter P ++ (if P (l.getD k 0) then [l.getD k 0] else []) := by
  have hx : l[k] = l.getD k 0 := by simp [List.getD, hk]
  rw [List.take_succ_eq_append_getElem hk, hx, List.filter_append]
  generalize l.getD k 0 = y
  cases hh : P y <;> simp [hh]

set_option maxRecDepth 100000 in
set_option maxHeartbeats 4000000 in
theorem trimmed_any {D : Dom} (A : Option Addr) (c : Nat) (t : List Nd) (i : Nat) (w : World) (h : RdN w D A c t) (hi : i < t.length) (hp : i ≠ 0 → 0 ≤ (nd t i).parent ∧ (nd t i).parent < (t.length : Int)) (htl : t.length ≤ 10000) (hsz : (nd t i).set.length ≤ 3000) :
    Calls Try.prog 40 #[.slice A t.length c, .int .i64 (i : Int)] w fun e w' => ∃ A' c', e = .returned (.slice A' (trimmedZ t i).length c') ∧ Below w.heap.size w w' ∧ RdI w' (fun k => w.heap.size ≤ k) A' c' (trimmedZ t i) := by
  obtain ⟨i0, hti, hz0, hz1, hz2⟩ := info_parts int_info
  have hm := h.len.1
  have HR := hid h.old
  have HP := hid hp
  obtain ⟨l, hl⟩ : ∃ l, l = (nd t i).set := ⟨_, rfl⟩
  rw [← hl] at hsz
  have HL := hid hl
  clear h hp hl
  go_enter Try.func40, Try.ntmps40
  go_upto_region 2 with (fail)
  refine wp_gen fun W hW => ?_
  have hb : Below w.heap.size w W := by rw [hW]; go_grown
  have ho : W.ownsRow w.heap.size 3 1 (.slice (some ⟨w.heap.size, 0, none⟩) 0 0) 0 (((l.take 0).filter (tstP t i)).map (.int .i64)) := by
    refine ⟨rfl, .inr ⟨w.heap.size, 0, #[], rfl, Nat.le_refl _, ?_, Nat.le_refl _, by decide, rfl, rfl⟩⟩
    rw [hW]; exact heap_alloc_new w _
  have HB := hid hb
  have HO := hid ho
  have hs0 : w.heap.size < W.heap.size := by rw [hW]; simp only [World.size_alloc]; omega
  clear hW hb ho
  go_wp2_with fail
  go_loopw [5, 6] (fun s t' wr => ∃ (k n : Nat) (A' : Option Addr) (c' : Nat), k ≤ l.length ∧ n = ((l.take k).filter (tstP t i)).length ∧ t' = .int .i64 (k : Int) ∧ s = .slice A' n c' ∧ wr.ownsRow w.heap.size 3 1 (.slice A' n c') n (((l.take k).filter (tstP t i)).map (.int .i64)) ∧ Below w.heap.size w wr) (fun _ t' _ => l.length - (intOf t').toNat)
  case atStart => exact ⟨0, 0, _, 0, Nat.zero_le _, rfl, rfl, rfl, HO.out, HB.out⟩
  case round =>
    obtain ⟨k, n, A', c', hk, hn, rfl, rfl, hown, hbr⟩ := hrel
    have HOX := hid hown
    have HBX := hid hbr
    have hnb : n ≤ k := by rw [hn]; exact Nat.le_trans (List.length_filter_le _ _) (by rw [List.length_take]; omega)
    have HNN := hid hn
    have hszr := hbr.size
    have HRW := hid (HR.out.keep (Keeps.of_below hbr fun _ h => h))
    clear hown hbr hn
    obtain ⟨b, o, A2, c2, x, rfl, _, hbl, HX, hr, h0, h1, h2⟩ := HRW.out.get hi
    have hxl : x.set = l := by rw [HL.out]; unfold nd; rw [HX.out]
    rw [hxl] at hr h2
    have hii : (i : Int) < t.length := by omega
    have HPI := hid (show (nd t i).parent = x.parent by unfold nd; rw [HX.out])
    clear hxl
    by_cases hlt : k < l.length
    · obtain ⟨g, o3, s, rfl, _, hgl, HS, hc⟩ := hr.get hlt
      have hki : (k : Int) < l.length := by omega
      clear hr
      obtain ⟨W2, hW2⟩ : ∃ W2, W2 = wr := ⟨_, rfl⟩
      rw [← hW2] at HOX HBX HRW h0 h1 h2 hc hszr ⊢
      clear hW2
      by_cases hz : i = 0
      · have hze : ((i : Int) == 0) = true := by simp [hz]
        have HZ := hid hz
        have hni : ¬ (1 : Int) < (i : Int) := by omega
        have hnd : decide ((1 : Int) < (i : Int)) = false := decide_eq_false hni
        have HTS := hid (show tstP t i s = true by unfold tstP; simp [HZ.out])
        clear hz
        go_wp2_with fail
        go_loopw [8, 9] (fun r q wr => r = .bool true ∧ q = .int .i64 1 ∧ Drawn W2 wr) (fun _ _ _ => 0)
        case atStart => exact ⟨rfl, rfl, Drawn.refl _⟩
        case round =>
          obtain ⟨rfl, rfl, hd⟩ := hrel
          have HOD := hid (own_below HOX.out (hd.below _))
          have HBD := hid (HBX.out.trans (hd.below _))
          have hsd := HBD.out.size
          clear hd
          go_wp2_with (at_builtin; go_must (refine wpList_append_rd _ rfl (.tmp 74) (.tmp 76) 22 rfl w.heap.size 3 i0 _ 1 8 Try.underlying22 hti hz0 hz1 hz2 rfl (by omega) (.slice A' n c') n _ rfl (HOD.out.alloc _) _ (some ⟨wr.heap.size, 0, none⟩) 1 1 _ rfl (Rd.cell1 (cell_new wr _ _ _ _ _ rfl rfl)) (by simp [Value.oneCell']) (by omega) (maxLen_le (by omega)) (by simp; omega) ?_); intro A5 c5 w5 hown5 hg5 hat5)
          have hb5 := Below.grown (B := w.heap.size) (HBD.out.trans ((show Below wr.heap.size wr _ from by go_grown).mono HBD.out.size)) hg5 (by simp; omega) (fun k hk => (HOD.out.lt k hk).1)
          have HO5 := hid hown5
          have HB5 := hid hb5
          clear hown5 hg5 hat5 hb5
          go_roundw
          case rel =>
            refine ⟨k + 1, n + 1, A5, c5, by omega, ?_, by go_num, rfl, ?_, HB5.out⟩
            · rw [filt_snoc (tstP t i) l hlt, HS.out, HTS.out, List.length_append, ← HNN.out]; rfl
            · rw [filt_snoc (tstP t i) l hlt, HS.out, HTS.out, List.map_append]; exact HO5.out
          case measure => simp [intOf]; omega
      · have hze : ((i : Int) == 0) = false := beq_eq_false_iff_ne.2 (by omega)
        have HZ := hid hz
        have hpp := HP.out hz
        rw [HPI.out] at hpp
        obtain ⟨pn, hpn⟩ : ∃ pn : Nat, x.parent = (pn : Int) := ⟨x.parent.toNat, by omega⟩
        have hpl : pn < t.length := by omega
        obtain ⟨g5, o5, AP, cP, y, hA, _, _, HY, hy, k0, k1, k2⟩ := HRW.out.get hpl
        injection hA with hA
        injection hA with e1 e2
        subst e1 e2
        rw [hpn] at h1
        have hpi : (pn : Int) < t.length := by omega
        obtain ⟨c0, hc0⟩ : ∃ c0, c0 = inB y.set s := ⟨_, rfl⟩
        have HIN : Hid (Calls Try.prog 26 #[.slice AP y.set.length cP, .int .i64 s] W2 fun e w' => e = .returned (.bool c0) ∧ w' = W2) := hid (by rw [hc0]; exact in_any _ _ _ _ _ hy)
        have HC0 := hid (show c0 = keptTo t i s 1 by
          have hy2 : nd t (nd t i).parent.toNat = y := by rw [HPI.out, hpn]; exact HY.out
          unfold keptTo keptC
          rw [hy2, hc0]
          simp [HZ.out, allN, sibC])
        have HPN := hid hpn
        have hyl := hy.len.1
        clear hc0 hpp hz hpn hy
        go_wp2_with (first | (go_at_call 26; refine HIN.out.mono ?_; rintro e w' ⟨rfl, hw⟩; rw [hw]; clear hw))
        go_loopw [8, 9] (fun r q wr => ∃ (n2 : Nat) (kb : Bool), 1 ≤ n2 ∧ n2 ≤ i ∧ q = .int .i64 (n2 : Int) ∧ r = .bool kb ∧ kb = keptTo t i s n2 ∧ Drawn W2 wr) (fun _ q _ => i - (intOf q).toNat)
        case atStart => exact ⟨1, c0, Nat.le_refl _, by have := HZ.out; omega, rfl, rfl, HC0.out, Drawn.refl _⟩
        case round =>
          obtain ⟨n2, kb, hn1, hn2, rfl, rfl, hkb, hd⟩ := hrel
          have HOD := hid (own_below HOX.out (hd.below _))
          have HBD := hid (HBX.out.trans (hd.below _))
          have hsd := HBD.out.size
          have HRD := hid (HRW.out.keep hd.keeps)
          have HKB := hid hkb
          have HD := hid hd
          have h1' := (hd.below W2.heap.size).cell (p := ⟨b, o + i * 3 + 1, none⟩) (World.block_lt_of_cell? W2 _ h1)
          have h1w := h1'.trans h1
          clear hkb h1' hd
          cases kb
          · have HTS := hid (show tstP t i s = false by unfold tstP; rw [keptTo_down HKB.out.symm hn2]; simp [HZ.out])
            by_cases hni : n2 < i
            · have hnd : decide ((n2 : Int) < (i : Int)) = true := decide_eq_true (by omega)
              go_wp2_with fail
              go_roundw
              case rel =>
                refine ⟨k + 1, n, A', c', by omega, ?_, by go_num, rfl, ?_, HBD.out⟩
                · rw [filt_snoc (tstP t i) l hlt, HS.out, HTS.out]; simpa using HNN.out
                · rw [filt_snoc (tstP t i) l hlt, HS.out, HTS.out]; simpa using HOD.out
              case measure => simp [intOf]; omega
            · have hnd : decide ((n2 : Int) < (i : Int)) = false := decide_eq_false (by omega)
              go_wp2_with fail
              go_roundw
              case rel =>
                refine ⟨k + 1, n, A', c', by omega, ?_, by go_num, rfl, ?_, HBD.out⟩
                · rw [filt_snoc (tstP t i) l hlt, HS.out, HTS.out]; simpa using HNN.out
                · rw [filt_snoc (tstP t i) l hlt, HS.out, HTS.out]; simpa using HOD.out
              case measure => simp [intOf]; omega
          · by_cases hni : n2 < i
            · have hnd : decide ((n2 : Int) < (i : Int)) = true := decide_eq_true (by omega)
              obtain ⟨g6, o6, AZ, cZ, z, hA, _, _, HZZ, hzr, j0, j1, j2⟩ := HRD.out.get (show n2 < t.length by omega)
              injection hA with hA
              injection hA with e1 e2
              subst e1 e2
              have hn2i : (n2 : Int) < t.length := by omega
              have hsib : sibC t i s n2 = (!decide (z.parent = (pn : Int)) || !inB z.set s) := by
                have hz2 : nd t n2 = z := HZZ.out
                unfold sibC
                rw [hz2, HPI.out, HPN.out, decide_eq_false (show ¬ n2 = 0 by omega)]
                rfl
              have HSIB := hid hsib
              have hzl := hzr.len.1
              clear hsib
              by_cases hpe : z.parent = (pn : Int)
              · have hpb : (z.parent != (pn : Int)) = false := by simp [hpe]
                obtain ⟨c1, hc1⟩ : ∃ c1, c1 = inB z.set s := ⟨_, rfl⟩
                have HI2 : Hid (∀ m, Calls Try.prog 26 #[.slice AZ z.set.length cZ, .int .i64 s] (wr.drewN m) fun e w' => e = .returned (.bool c1) ∧ w' = wr.drewN m) := hid fun m => by rw [hc1]; exact in_any _ _ _ _ _ (hzr.keep (Drawn.n wr m).keeps)
                have HC1 := hid hc1
                have HPE := hid hpe
                clear hc1 hpe hzr
                go_wp2_with fail
                go_quiet ((go_at_call 26; exact Calls.quiet_of_same (HI2.out _)))
                go_wp2_with fail
                go_roundw
                case rel => exact ⟨n2 + 1, !c1, by omega, by omega, by go_num, rfl, by rw [keptTo_snoc, ← HKB.out, HSIB.out, HC1.out, decide_eq_true HPE.out]; rfl, HD.out.drewN _⟩
                case measure => simp [intOf]; omega
              · have hpb : (z.parent != (pn : Int)) = true := by simp [hpe]
                have HPE := hid hpe
                clear hpe hzr
                go_wp2_with fail
                go_quiet (fail)
                go_wp2_with fail
                go_roundw
                case rel => exact ⟨n2 + 1, true, by omega, by omega, by go_num, rfl, by rw [keptTo_snoc, ← HKB.out, HSIB.out, decide_eq_false HPE.out]; rfl, HD.out.drewN _⟩
                case measure => simp [intOf]; omega
            · have hnd : decide ((n2 : Int) < (i : Int)) = false := decide_eq_false (by omega)
              have HTS := hid (show tstP t i s = true by
                have hq := HKB.out
                have en : i = n2 := by omega
                rw [← en] at hq
                unfold tstP
                rw [← hq]; simp)
              go_wp2_with (at_builtin; go_must (refine wpList_append_rd _ rfl (.tmp 74) (.tmp 76) 22 rfl w.heap.size 3 i0 _ 1 8 Try.underlying22 hti hz0 hz1 hz2 rfl (by omega) (.slice A' n c') n _ rfl (HOD.out.alloc _) _ (some ⟨wr.heap.size, 0, none⟩) 1 1 _ rfl (Rd.cell1 (cell_new wr _ _ _ _ _ rfl rfl)) (by simp [Value.oneCell']) (by omega) (maxLen_le (by omega)) (by simp; omega) ?_); intro A5 c5 w5 hown5 hg5 hat5)
              have hb5 := Below.grown (B := w.heap.size) (HBD.out.trans ((show Below wr.heap.size wr _ from by go_grown).mono HBD.out.size)) hg5 (by simp; omega) (fun k hk => (HOD.out.lt k hk).1)
              have HO5 := hid hown5
              have HB5 := hid hb5
              clear hown5 hg5 hat5 hb5
              go_roundw
              case rel =>
                refine ⟨k + 1, n + 1, A5, c5, by omega, ?_, by go_num, rfl, ?_, HB5.out⟩
                · rw [filt_snoc (tstP t i) l hlt, HS.out, HTS.out, List.length_append, ← HNN.out]; rfl
                · rw [filt_snoc (tstP t i) l hlt, HS.out, HTS.out, List.map_append]; exact HO5.out
              case measure => simp [intOf]; omega
    · have hke : k = l.length := by omega
      have HKE := hid hke
      clear hke hr
      go_wp2_with fail
      go_ret
      have e2 : l.take k = l := by rw [HKE.out]; simp
      have ho := HOX.out
      have hn := HNN.out
      rw [e2] at ho hn
      have e : trimmedZ t i = l.filter (tstP t i) := by rw [trimmed_kept, ← HL.out]; rfl
      rw [e]
      refine ⟨A', c', ret_sl hn, HBX.out, ?_⟩
      unfold RdI
      rw [← hn]
      exact Rd.own ho (by omega) (fun _ h => h)
end Go.Proofs.Ythhknonaebnooaa
set_option linter.unusedVariables false
set_option linter.unusedSimpArgs false
namespace Go.Proofs.Ythhknonaebnooaa
open Go.RowKit
attribute [local go_sem] cell_alloc_old

theorem freeN_le (used : List Int) : ∀ (m : Nat) (n : Int), freeN used m n ≤ n + m
  | 0, n => by simp [freeN]
  | m + 1, n => by
    unfold freeN
    split
    · have := freeN_le used m (n + 1); omega
    · omega
theorem nameTo_le (used : List Int) (t : List Nd) : ∀ k, 1 ≤ (nameTo used t k).2 ∧ (nameTo used t k).2 ≤ 1 + k * ((used.length : Int) + 1) ∧ (nameTo used t k).1.length = t.length
  | 0 => ⟨Int.le_refl _, by simp [nameTo], rfl⟩
  | k + 1 => by
    obtain ⟨h1, h2, h3⟩ := nameTo_le used t k
    have e : ((k + 1 : Nat) : Int) * ((used.length : Int) + 1) = k * ((used.length : Int) + 1) + ((used.length : Int) + 1) := by rw [Int.natCast_add, Int.add_mul]; simp
    unfold nameTo
    split
    · exact ⟨h1, by rw [e]; omega, h3⟩
    · have h4 := freeN_le used used.length (nameTo used t k).2
      have h5 := (freeN_free used.length used (nameTo used t k).2 (Nat.le_refl _)).le
      refine ⟨?_, ?_, ?_⟩
      · show 1 ≤ freeN used used.length (nameTo used t k).2 + 1; omega
      · show freeN used used.length (nameTo used t k).2 + 1 ≤ _; rw [e]; omega
      · show ((nameTo used t k).1.set k _).length = _; rw [List.length_set]; exact h3
theorem nameTo_late (used : List Int) (t : List Nd) : ∀ k j, k ≤ j → nd (nameTo used t k).1 j = nd t j
  | 0, _, _ => rfl
  | k + 1, j, h => by
    have ih := nameTo_late used t k j (by omega)
    unfold nameTo
    split
    · exact ih
    · show nd ((nameTo used t k).1.set k _) j = _
      rw [← ih]
      unfold nd
      simp [List.getD, show k ≠ j by omega]
theorem nameTo_old {used : List Int} {t : List Nd} {k : Nat} (h : 0 < (nd t k).name) : nameTo used t (k + 1) = nameTo used t k := by
  conv => lhs; unfold nameTo
  rw [if_pos h]
theorem filtI_snoc (P : Int → Bool) (l : List Int) {k : Nat} (hk : k < l.length) : (l.take (k + 1)).filter P = (l.take k).filter P ++ (if P (l.getD k 0) then [l.getD k 0] else []) := filt_snoc P l hk
/-- The bad names. -/
def badQ (t : List Nd) (n : Int) : Bool := !inB (namesZ t) n
theorem own_chg {V : Dom} {w w' : World} {base n size : Nat} {e : TypeId} {v : Value} {xs : List Value} (h : w.ownsRow base e size v n xs) (hc : Chg V w w') (hv : ∀ k, some k = v.ownBlock → ¬ V k) : w'.ownsRow base e size v n xs :=
  own_agree h fun k hk => hc.block k (h.lt k hk.symm).2 (hv k hk)
set_option maxRecDepth 100000 in
set_option maxHeartbeats 4000000 in
theorem named_any {E : Dom} (B : Nat) (Ao : Option Addr) (co : Nat) (old : List Nd) (A : Option Addr) (c : Nat) (t : List Nd) (sl : List (Option Addr × Nat)) (w : World) (ho : RdN w E Ao co old) (hol : old.length ≤ 1000) (h : ON B w A t.length c t sl) (htl : t.length ≤ 10000) :
    Calls Try.prog 43 #[.slice Ao old.length co, .slice A t.length c] w fun e w' => ∃ AB cB, e = .returned (.tuple #[.slice A t.length c, .slice AB (sortZ ((namesZ old).filter (badQ t))).length cB]) ∧ Chg (fun k => some k = (Value.slice A t.length c).ownBlock) w w' ∧
      ON B w' A t.length c (nameTo (namesZ old) t t.length).1 sl ∧ RdI w' (fun k => w.heap.size ≤ k) AB cB (sortZ ((namesZ old).filter (badQ t))) := by
  obtain ⟨i0, hti, hz0, hz1, hz2⟩ := info_parts int_info
  have HON := hid h
  have HOLD := hid ho
  clear h ho
  obtain ⟨used, hused⟩ : ∃ used, used = namesZ old := ⟨_, rfl⟩
  have hul : used.length ≤ 1000 := by rw [hused]; simpa [namesZ] using hol
  have hnl : (namesZ t).length = t.length := by simp [namesZ]
  have hcn := names_any Ao co old w HOLD.out (by omega)
  rw [← hused] at hcn ⊢
  have HCN := hid hcn
  clear hcn hused
  go_enter Try.func43, Try.ntmps43
  go_wp2_with fail
  refine HCN.out.mono ?_
  rintro e W1 ⟨AU, cU, rfl, hb1, hu1⟩
  have HB1 := hid hb1
  have HU1 := hid hu1
  have hs1 := hb1.size
  clear hb1 hu1
  go_upto_region 3 with (fail)
  refine wp_gen fun W hW => ?_
  have HB := hid (show Below W1.heap.size W1 W by rw [hW]; go_grown)
  have HO := hid (show W.ownsRow W1.heap.size 3 1 (.slice (some ⟨W1.heap.size, 0, none⟩) 0 0) 0 (((used.take 0).filter (badQ t)).map (.int .i64)) by rw [hW]; exact own_lit0 _ _ _)
  clear hW
  go_wp2_with fail
  go_loopw [7, 8] (fun s q wr => ∃ (k n : Nat) (A' : Option Addr) (c' : Nat), k ≤ used.length ∧ n = ((used.take k).filter (badQ t)).length ∧ q = .int .i64 (k : Int) ∧ s = .slice A' n c' ∧ wr.ownsRow W1.heap.size 3 1 (.slice A' n c') n (((used.take k).filter (badQ t)).map (.int .i64)) ∧ Below W1.heap.size W1 wr) (fun _ q _ => used.length - (intOf q).toNat)
  case atStart => exact ⟨0, 0, _, 0, Nat.zero_le _, rfl, rfl, rfl, HO.out, HB.out⟩
  case round =>
    obtain ⟨k, n, A', c', hk, hn, rfl, rfl, hown, hbr⟩ := hrel
    have HOX := hid hown
    have HBX := hid hbr
    have hnb : n ≤ k := by rw [hn]; exact Nat.le_trans (List.length_filter_le _ _) (by rw [List.length_take]; omega)
    have HNN := hid hn
    have hszr := hbr.size
    have HBW := hid (HB1.out.trans (hbr.mono hs1))
    have HUR := hid ((HU1.out.mono (E := fun j => w.heap.size ≤ j ∧ j < W1.heap.size) fun j hj hl => ⟨hj, hl⟩).keep (Keeps.of_below hbr fun _ h => h.2))
    clear hown hbr hn
    by_cases hlt : k < used.length
    · obtain ⟨g, o, x, hAU, _, hgl, HX, hc⟩ := HUR.out.get hlt
      subst hAU
      have hki : (k : Int) < used.length := by omega
      have hsn := filtI_snoc (badQ t) used hlt
      rw [HX.out] at hsn
      have HSN := hid hsn
      obtain ⟨bv, hbv⟩ : ∃ bv, bv = inB (namesZ t) x := ⟨_, rfl⟩
      have hbp : badQ t x = !bv := by rw [hbv]; rfl
      have HBP := hid hbp
      have HCALL : Hid (∀ W', Below wr.heap.size wr W' → Calls Try.prog 69 #[.slice A t.length c] W' fun e w' => ∃ A9 c9, e = .returned (.slice A9 t.length c9) ∧ Below wr.heap.size wr w' ∧ RdI w' Any A9 c9 (namesZ t)) := hid fun W' hb => by
        refine (names_any A c t W' ((((HON.out.rd (by omega)).any HBW.out)).any hb) htl).mono ?_
        rintro e w' ⟨A9, c9, rfl, hb', hr'⟩
        exact ⟨A9, c9, by rw [hnl], hb.trans (hb'.mono hb.size), hr'.mono fun _ _ _ => trivial⟩
      have HIN : Hid (∀ W' A9 c9, Below wr.heap.size wr W' → RdI W' Any A9 c9 (namesZ t) → Calls Try.prog 26 #[.slice A9 t.length c9, .int .i64 x] W' fun e w' => e = .returned (.bool bv) ∧ Below wr.heap.size wr w') := hid fun W' A9 c9 hb hr => by
        have := in_any A9 c9 (namesZ t) x W' hr
        rw [hnl, ← hbv] at this
        refine this.mono ?_
        rintro e w' ⟨rfl, rfl⟩
        exact ⟨rfl, hb⟩
      have HK0 : Hid (∀ W', Below wr.heap.size wr W' → W'.cell? ⟨g, o + k, none⟩ = some (.int .i64 x)) := hid fun W' hb => (hb.cell (p := ⟨g, o + k, none⟩) hgl).trans hc
      have HI1 := hid (show Below wr.heap.size wr wr.drew from (Below.refl _ _).drew)
      have HI2 := hid (show ∀ i, Below wr.heap.size wr (wr.drewN i) from fun i => (Drawn.n wr i).below _)
      clear hsn hbv hbp
      cases bv
      · have HBP := hid (show badQ t x = true from HBP.out)
        go_upto_region 6 with (fail)
        go_region_held3 (fun W' => W'.cell? ⟨g, o + k, none⟩ = some (.int .i64 x))
          (first | (with_reducible exact HK0.out _ hI) | (go_keep; done))
          (first
            | (go_at_call 69; refine (HCALL.out _ (by first | exact HI1.out | exact HI2.out _)).mono ?_; rintro e W9 ⟨A9, c9, rfl, hI, hr9⟩)
            | (go_at_call 26; refine (HIN.out _ _ _ (by first | exact hI | exact hI.trans ((Drawn.n _ _).below _)) (by first | exact hr9 | exact hr9.keep (Drawn.n _ _).keeps)).mono ?_; rintro e WX ⟨rfl, hI⟩))
        all_goals
          have hc9 := HK0.out _ hI
          have hs9 := hI.size
          have HI9 := hid hI
          clear hI hr9 hc
          go_wp2_with (at_builtin; go_must (refine wpList_append_rd _ rfl (.tmp 28) (.tmp 33) 22 rfl W1.heap.size 3 i0 _ 1 8 Try.underlying22 hti hz0 hz1 hz2 rfl (by omega) (.slice A' n c') n _ rfl ((own_below HOX.out HI9.out).alloc _) _ (some ⟨WX.heap.size, 0, none⟩) 1 1 _ rfl (Rd.cell1 (cell_new WX _ _ _ _ _ rfl rfl)) (by simp [Value.oneCell']) (by omega) (maxLen_le (by omega)) (by simp; omega) ?_); intro A5 c5 w5 hown5 hg5 hat5)
          have hb5 := Below.grown (B := W1.heap.size) ((HBX.out.trans (HI9.out.mono hszr)).trans ((show Below WX.heap.size WX _ from by go_grown).mono (by omega))) hg5 (by simp; omega) (fun k hk => (HOX.out.lt k hk).1)
          have HO5 := hid hown5
          have HB5 := hid hb5
          clear hown5 hg5 hat5 hb5
          go_roundw
          case rel =>
            refine ⟨k + 1, n + 1, A5, c5, by omega, ?_, by go_num, rfl, ?_, HB5.out⟩
            · rw [HSN.out, HBP.out, if_pos rfl, List.length_append, ← HNN.out]; rfl
            · rw [HSN.out, HBP.out, if_pos rfl, List.map_append]; exact HO5.out
          case measure => simp [intOf]; omega
      · have HBP := hid (show badQ t x = false from HBP.out)
        go_upto_region 6 with (fail)
        go_region_held3 (fun W' => W'.cell? ⟨g, o + k, none⟩ = some (.int .i64 x))
          (first | (with_reducible exact HK0.out _ hI) | (go_keep; done))
          (first
            | (go_at_call 69; refine (HCALL.out _ (by first | exact HI1.out | exact HI2.out _)).mono ?_; rintro e W9 ⟨A9, c9, rfl, hI, hr9⟩)
            | (go_at_call 26; refine (HIN.out _ _ _ (by first | exact hI | exact hI.trans ((Drawn.n _ _).below _)) (by first | exact hr9 | exact hr9.keep (Drawn.n _ _).keeps)).mono ?_; rintro e WX ⟨rfl, hI⟩))
        all_goals
          have HI9 := hid hI
          have hs9 := hI.size
          clear hI hr9 hc
          go_wp2_with fail
          go_roundw
          case rel =>
            refine ⟨k + 1, n, A', c', by omega, ?_, by go_num, rfl, ?_, HBX.out.trans (HI9.out.mono hszr)⟩
            · rw [HSN.out, HBP.out, if_neg (by decide), List.append_nil]; exact HNN.out
            · rw [HSN.out, HBP.out, if_neg (by decide), List.append_nil]; exact own_below HOX.out HI9.out
          case measure => simp [intOf]; omega
    · have hke : used.take k = used := List.take_of_length_le (by omega)
      rw [hke] at HOX HNN
      obtain ⟨W2, hW2⟩ : ∃ W2, W2 = wr := ⟨_, rfl⟩
      rw [← hW2] at HOX HBX HBW HUR hszr ⊢
      have hon2 := HON.out.below HBW.out
      have HON2 := hid hon2
      have hvw : ∀ k, some k = (Value.slice A t.length c).ownBlock → k < w.heap.size := fun k hk => (HON.out.own.lt k hk.symm).2
      have HVW := hid hvw
      clear hke hW2 hon2 hvw
      go_wp2_with fail
      go_loopw [9, 10] (fun nv q wr => ∃ k : Nat, k ≤ t.length ∧ nv = .int .i64 (nameTo used t k).2 ∧ q = .int .i64 (k : Int) ∧ ON B wr A t.length c (nameTo used t k).1 sl ∧ Chg (fun j => some j = (Value.slice A t.length c).ownBlock) W2 wr) (fun _ q _ => t.length - (intOf q).toNat)
      case atStart => exact ⟨0, Nat.zero_le _, rfl, rfl, HON2.out, Chg.refl _ _⟩
      case round =>
        obtain ⟨k, hk, rfl, rfl, hon, hch⟩ := hrel
        obtain ⟨n1, n2, n3⟩ := nameTo_le used t k
        obtain ⟨n0, hn0⟩ : ∃ n0, n0 = (nameTo used t k).2 := ⟨_, rfl⟩
        have HONK := hid hon
        have HCH := hid hch
        have HUC := hid (show RdI wr Any AU cU used from ((HUR.out.mono (E := fun j => some j ≠ (Value.slice A t.length c).ownBlock) fun j hj hl e => by have h1 := HVW.out j e; have h2 := hj.1; omega).keep ⟨hch.size, fun j hj hl => hch.block j hl (fun e => hj e)⟩).mono fun _ _ _ => trivial)
        rw [← hn0] at n1 n2 ⊢
        clear hon hch
        by_cases hlt : k < t.length
        · have hki : (k : Int) < t.length := by omega
          obtain ⟨g, rfl, hgl, hgl2⟩ := HONK.out.form (by omega)
          obtain ⟨c0, f0⟩ := HONK.out.at (k := k) (j := 0) (by omega) (by omega)
          have hlate := nameTo_late used t k k (Nat.le_refl _)
          have c0 : wr.cell? ⟨g, k * 3, none⟩ = some (.int .i64 (nd t k).name) := by rw [hlate] at c0; exact c0
          have f0 : wr.frozen? ⟨g, k * 3, none⟩ = false := f0
          obtain ⟨x, hx⟩ : ∃ x, x = nd t k := ⟨_, rfl⟩
          rw [← hx] at c0 hlate
          have HX := hid hx
          have HLT := hid hlate
          clear hlate
          by_cases hpos : 0 < x.name
          · have hnx : nameTo used t (k + 1) = nameTo used t k := nameTo_old (by rw [← hx]; exact hpos)
            have HNX := hid hnx
            have hpd : decide (0 < x.name) = true := decide_eq_true hpos
            clear hnx hpos hx
            go_wp2_with fail
            go_roundw
            case rel => exact ⟨k + 1, by omega, by rw [HNX.out, ← hn0], by go_num, by rw [HNX.out]; exact HONK.out, HCH.out⟩
            case measure => simp [intOf]; omega
          · have hpd : decide (0 < x.name) = false := decide_eq_false hpos
            have hfree := freeN_free used.length used n0 (Nat.le_refl _)
            have hfle := freeN_le used used.length n0
            obtain ⟨f, hf⟩ : ∃ f, f = freeN used used.length n0 := ⟨_, rfl⟩
            rw [← hf] at hfree hfle
            have hnx : nameTo used t (k + 1) = ((nameTo used t k).1.set k { x with name := f }, f + 1) := by
              conv => lhs; unfold nameTo
              rw [if_neg (by rw [← hx]; exact hpos), ← hn0, ← hf, HLT.out]
            have hkm : (k : Int) * ((used.length : Int) + 1) ≤ 10000 * 1001 := Int.mul_le_mul (by omega) (by omega) (by omega) (by omega)
            have hfb : f ≤ 20000000 := by omega
            have HNX := hid hnx
            have HFR := hid hfree
            have hn0f := hfree.le
            obtain ⟨W3, hW3⟩ : ∃ W3, W3 = wr := ⟨_, rfl⟩
            rw [← hW3] at HONK HCH HUC c0 f0 hgl2 ⊢
            clear hnx hpos hx hf hkm hfree hfle hW3 n2
            go_wp2_with fail
            go_loopw [9] (fun nv wr => ∃ n : Int, n0 ≤ n ∧ n ≤ f ∧ nv = .int .i64 n ∧ wr = W3) (fun nv _ => (f - intOf nv).toNat)
            case atStart => exact ⟨n0, Int.le_refl _, hn0f, rfl, rfl⟩
            case round =>
              obtain ⟨n, m1, m2, rfl, rfl⟩ := hrel
              have hin := in_any AU cU used n wr HUC.out
              by_cases hu : inB used n = true
              · rw [hu] at hin
                have hnf : n < f := by
                  rcases Int.lt_or_le n f with e | e
                  · exact e
                  · exact absurd (inB_iff.1 hu) (by rw [show n = f by omega]; exact HFR.out.no)
                have HIN := hid hin
                clear hin hu
                go_wp2_with fail
                refine HIN.out.mono ?_
                rintro e w' ⟨rfl, rfl⟩
                go_wp2_with fail
                go_roundw
                case rel => exact ⟨n + 1, by omega, by omega, by go_num, by first | rfl | trivial⟩
                case measure => simp [intOf]; omega
              · have hu : inB used n = false := by simpa using hu
                rw [hu] at hin
                have hnf : n = f := by
                  rcases Int.lt_or_le n f with e | e
                  · exact absurd (inB_iff.2 (HFR.out.all n m1 e)) (by rw [hu]; decide)
                  · omega
                subst hnf
                have HIN := hid hin
                have hnd : nd (nameTo used t k).1 k = x := HLT.out
                have hw := HONK.out.write (k := k) (j := 0) (by omega) (by omega) (.int .i64 n) { x with name := n } (sl.getD k (none, 0)) (by rw [hnd]; rfl) (by have := HONK.out.set k (by omega); rw [hnd] at this; exact this)
                rw [set_self sl k (none, 0) (by rw [HONK.out.len]; omega)] at hw
                have HWR := hid hw
                clear hin hu hw hnd
                go_wp2_with fail
                refine HIN.out.mono ?_
                rintro e w' ⟨rfl, rfl⟩
                go_wp2_with fail
                go_roundw
                case rel =>
                  refine ⟨k + 1, by omega, by rw [HNX.out], by go_num, by rw [HNX.out]; exact HWR.out, ?_⟩
                  exact HCH.out.set _ _ (fun _ => rfl)
                case measure => simp [intOf]; omega
        · obtain rfl : k = t.length := by omega
          have hown := own_chg HOX.out HCH.out (fun j hj e => by have h1 := HVW.out j e; have h2 := (HOX.out.lt j hj.symm).1; omega)
          have hrd := Rd.own (D := Any) hown (by omega) (fun _ _ => trivial)
          rw [HNN.out] at hrd
          have hso := rsorted_any A' c' (used.filter (badQ t)) wr hrd (by have := HNN.out; omega)
          rw [← HNN.out] at hso
          have HSO := hid hso
          clear hown hrd hso
          go_wp2_with fail
          refine HSO.out.mono ?_
          rintro e w9 ⟨AB, cB, rfl, hb9, hr9⟩
          have hsz : w.heap.size ≤ wr.heap.size := Nat.le_trans HBW.out.size HCH.out.size
          have hch9 : Chg (fun j => some j = (Value.slice A t.length c).ownBlock) w w9 := ((Chg.of_new HBW.out).trans' HCH.out (fun _ _ h => h)).trans (Chg.of_new hb9)
          have HR9 := hid (hr9.mono (E := fun j => w.heap.size ≤ j) fun j hj _ => by have hj : wr.heap.size ≤ j := hj; show w.heap.size ≤ j; omega)
          have HC9 := hid hch9
          have HN9 := hid (HONK.out.below hb9)
          clear hb9 hr9 hch9
          go_wp2_with fail
          exact bodyPost_ret (v := .tuple #[.slice A t.length c, .slice AB (sortZ (used.filter (badQ t))).length cB]) (by simp [results, Try.results43, go_sem]) rfl ⟨AB, cB, rfl, HC9.out, HN9.out, HR9.out⟩
end Go.Proofs.Ythhknonaebnooaa
