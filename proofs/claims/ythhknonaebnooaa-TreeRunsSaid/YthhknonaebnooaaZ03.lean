/-
  Walks of the reference: names, union, below; place of the laws; Names.
  Walk of the reference: Same of trees.
  Walks: SameEvent, Names of both.
  Walk of the reference: union.
  Walk of the reference: Reached.
  Walk of the reference: below.
  Walk of the reference: trimmed.
  Maps that the call itself keeps: an entry set again; the walk over all entries, in any order.
  Maps from ints to true: sets.
  What a call may change; walk of the program: chosen (moves), and the two predicates.
  Walk of the program: reached.
  The program's nodes while a step is made, as rows of cells; walk of grown.
-/
import Derived.Test.YthhknonaebnooaaZ02
import Derived.Maps.RangeRun
import Derived.Test.YthhknonaebnooaaZ00
import Derived.Shelf.Abstract
import Derived.Laws.EntriesVeiled
set_option linter.unusedVariables false
set_option linter.unusedSimpArgs false
namespace Go.Proofs.Ythhknonaebnooaa
open Go.RowKit
attribute [local go_sem] cell_alloc_old

theorem int_info : (Try.prog.info? 3).map (fun i => (i.zero, i.size, i.bytes)) = some (some (.int .i64 0), 1, 8) := by kernel_rfl
/-- Below of a call whose own row grows. -/
theorem nd_get {t : List Nd} {k : Nat} {x : Nd} (h : t.getD k default = x) : nd t k = x := h

set_option maxRecDepth 100000 in
set_option maxHeartbeats 2000000 in
theorem names_any {D : Dom} (A : Option Addr) (c : Nat) (t : List Nd) (w : World) (h : RdN w D A c t) (htl : t.length ≤ 10000) :
    Calls Try.prog 69 #[.slice A t.length c] w fun e w' => ∃ A' c', e = .returned (.slice A' (namesZ t).length c') ∧ Below w.heap.size w w' ∧ RdI w' (fun k => w.heap.size ≤ k) A' c' (namesZ t) := by
  obtain ⟨i0, hti, hz0, hz1, hz2⟩ := info_parts int_info
  have hm := h.len.1
  have HR := hid h.old
  clear h
  go_enter Try.func69, Try.ntmps69
  go_upto_region 2 with (fail)
  refine wp_gen fun W hW => ?_
  have hb : Below w.heap.size w W := by rw [hW]; go_grown
  have ho : W.ownsRow w.heap.size 3 1 (.slice (some ⟨w.heap.size, 0, none⟩) 0 0) 0 ((namesZ (t.take 0)).map (.int .i64)) := by
    refine ⟨rfl, .inr ⟨w.heap.size, 0, #[], rfl, Nat.le_refl _, ?_, Nat.le_refl _, by decide, rfl, rfl⟩⟩
    rw [hW]; exact heap_alloc_new w _
  have HB := hid hb
  have HO := hid ho
  have hsz : w.heap.size < W.heap.size := by rw [hW]; simp only [World.size_alloc]; omega
  clear hW hb ho
  go_wp2_with fail
  go_loopw [3, 4] (fun s t' wr => ∃ (k : Nat) (A' : Option Addr) (c' : Nat), k ≤ t.length ∧ t' = .int .i64 (k : Int) ∧ s = .slice A' k c' ∧ wr.ownsRow w.heap.size 3 1 (.slice A' k c') k ((namesZ (t.take k)).map (.int .i64)) ∧ Below w.heap.size w wr) (fun _ t' _ => t.length - (intOf t').toNat)
  case atStart => exact ⟨0, _, 0, Nat.zero_le _, rfl, rfl, HO.out, HB.out⟩
  case round =>
    obtain ⟨k, A', c', hk, rfl, rfl, hown, hbr⟩ := hrel
    have HOX := hid hown
    have HBX := hid hbr
    have hszr := hbr.size
    clear hown hbr
    by_cases hlt : k < t.length
    · obtain ⟨b, o, A2, c2, x, rfl, _, hbl, HX, hr, h0, h1, h2⟩ := (HR.out.keep (Keeps.of_below HBX.out fun _ h => h)).get hlt
      have hki : (k : Int) < t.length := by omega
      clear hr
      go_wp2_with (at_builtin; go_must (refine wpList_append_rd _ rfl (.tmp 12) (.tmp 18) 22 rfl w.heap.size 3 i0 _ 1 8 Try.underlying22 hti hz0 hz1 hz2 rfl (by omega) (.slice A' k c') k _ rfl (HOX.out.alloc _) _ (some ⟨wr.heap.size, 0, none⟩) 1 1 _ rfl (Rd.cell1 (cell_new wr _ _ _ _ _ rfl rfl)) (by simp [Value.oneCell']) (by omega) (maxLen_le (by omega)) (by simp; omega) ?_); intro A5 c5 w5 hown5 hg5 hat5)
      have hb5 := Below.grown (B := w.heap.size) (HBX.out.trans ((show Below wr.heap.size wr _ from by go_grown).mono HBX.out.size)) hg5 (by simp; omega) (fun k hk => (HOX.out.lt k hk).1)
      have HO5 := hid hown5
      have HB5 := hid hb5
      clear hown5 hg5 hat5 hb5
      go_roundw
      case rel =>
        refine ⟨k + 1, A5, c5, by omega, by go_num, rfl, ?_, HB5.out⟩
        have e : namesZ (t.take (k + 1)) = namesZ (t.take k) ++ [x.name] := by
          have hx : t[k] = x := by have := HX.out; simpa [List.getD, hlt] using this
          rw [List.take_succ_eq_append_getElem hlt, hx]; simp [namesZ]
        rw [e, List.map_append]
        exact HO5.out
      case measure => simp [intOf]; omega
    · have hke : k = t.length := by omega
      have HKE := hid hke
      clear hke
      go_wp2_with fail
      go_ret
      have e1 : (namesZ t).length = k := by rw [HKE.out]; simp [namesZ]
      have e2 : t.take k = t := by rw [HKE.out]; simp
      have ho := HOX.out
      rw [e2] at ho
      refine ⟨A', c', ret_sl e1.symm, HBX.out, ?_⟩
      unfold RdI
      rw [e1]
      exact Rd.own ho (by omega) (fun _ h => h)

/-- The place of the node with a name, or -1. -/
def placeZ (t : List Nd) (n : Int) : Int := match t.findIdx? (fun x => decide (x.name = n)) with | some i => (i : Int) | none => -1
set_option maxRecDepth 100000 in
set_option maxHeartbeats 1000000 in
theorem place_any {D : Dom} (A : Option Addr) (c : Nat) (t : List Nd) (n : Int) (w : World) (h : RdN w D A c t) :
    Calls Try.prog 25 #[.slice A t.length c, .int .i64 n] w fun e w' => e = .returned (.int .i64 (placeZ t n)) ∧ w' = w := by
  have hm := h.len.1
  have HR := hid h
  clear h
  go_enter Try.func25, Try.ntmps25
  go_wp2
  go_loop [5] (fun s => ∃ k : Nat, k ≤ t.length ∧ s = .int .i64 k ∧ SoFar k (fun j => !decide ((nd t j).name = n))) (fun s => t.length - (intOf s).toNat)
  case atStart => exact ⟨0, Nat.zero_le _, rfl, SoFar.zero _⟩
  case round =>
    obtain ⟨k, hk, rfl, hb⟩ := hrel
    have HB := hid hb
    clear hb
    by_cases hlt : k < t.length
    · obtain ⟨b, o, A2, c2, x, rfl, _, hbl, HX, hr, h0, h1, h2⟩ := HR.out.get hlt
      have hki : (k : Int) < t.length := by omega
      clear hr
      by_cases hx : x.name = n
      · have hxe : (x.name == n) = true := beq_iff_eq.2 hx
        have HE := hid hx
        clear hx
        go_wp2
        go_ret
        have e : t.findIdx? (fun x => decide (x.name = n)) = some k := by
          rw [List.findIdx?_eq_some_iff_getElem]
          have hxk : t[k] = x := by have := HX.out; simpa [List.getD, hlt] using this
          refine ⟨hlt, by rw [hxk]; simp [HE.out], fun j hj => ?_⟩
          have := HB.out j hj
          have hjl : j < t.length := by omega
          simpa [nd, List.getD, hjl] using this
        exact ⟨ret_int (by unfold placeZ; rw [e]), rfl⟩
      · have hxe : (x.name == n) = false := beq_eq_false_iff_ne.2 hx
        have HE := hid hx
        clear hx
        go_wp2
        go_round
        case rel => exact ⟨k + 1, by omega, by go_num, HB.out.succ (by unfold nd; rw [HX.out]; simp [HE.out])⟩
        case measure => simp [intOf]; omega
    · go_wp2
      go_ret
      have e : t.findIdx? (fun x => decide (x.name = n)) = none := by
        rw [List.findIdx?_eq_none_iff]
        intro x hx
        obtain ⟨j, hj, rfl⟩ := List.getElem_of_mem hx
        have := HB.out j (by omega)
        simpa [nd, List.getD, hj] using this
      exact ⟨ret_int (by unfold placeZ; rw [e]), rfl⟩
end Go.Proofs.Ythhknonaebnooaa
set_option linter.unusedVariables false
set_option linter.unusedSimpArgs false
namespace Go.Proofs.Ythhknonaebnooaa
open Go.RowKit
attribute [local go_sem] cell_alloc_old

theorem nd_ext {a b : List Nd} (hl : a.length = b.length) (h : ∀ i, i < a.length → nd a i = nd b i) : a = b := by
  refine List.ext_getElem hl fun i h1 h2 => ?_
  have := h i h1
  simpa [nd, List.getD, h1, h2] using this
def ndB (x y : Nd) : Bool := decide (x.name = y.name) && decide (x.parent = y.parent) && decide (x.set = y.set)
theorem ndB_iff (x y : Nd) : ndB x y = true ↔ x = y := by
  obtain ⟨a, b, c⟩ := x
  obtain ⟨a', b', c'⟩ := y
  simp [ndB, and_assoc]

set_option maxRecDepth 100000 in
set_option maxHeartbeats 4000000 in
theorem samet_any {D E : Dom} (A B : Option Addr) (c d : Nat) (s t : List Nd) (w : World) (hs : RdN w D A c s) (ht : RdN w E B d t) :
    Calls Try.prog 16 #[.slice A s.length c, .slice B t.length d] w fun e w' => e = .returned (.bool (decide (s = t))) ∧ Drawn w w' := by
  have hm := hs.len.1
  have HS := hid hs
  have HT := hid ht
  clear hs ht
  by_cases hn : s.length = t.length
  · have hne : ((s.length : Int) != (t.length : Int)) = false := by simp [hn]
    have HN := hid hn
    have hle : t.length ≤ s.length := by omega
    clear hn
    go_enter Try.func16, Try.ntmps16
    go_wp2
    go_loopw [5] (fun q wr => ∃ k : Nat, k ≤ s.length ∧ q = .int .i64 k ∧ SoFar k (fun j => ndB (nd s j) (nd t j)) ∧ Drawn w wr) (fun q _ => s.length - (intOf q).toNat)
    case atStart => exact ⟨0, Nat.zero_le _, rfl, SoFar.zero _, Drawn.refl w⟩
    case round =>
      obtain ⟨k, hk, rfl, hb, hd⟩ := hrel
      have HB := hid hb
      clear hb
      by_cases hlt : k < s.length
      · have hlt2 : k < t.length := by have := HN.out; omega
        obtain ⟨b, o, A1, c1, x, rfl, _, _, HX, hx, h0, h1, h2⟩ := (HS.out.keep hd.keeps).get hlt
        obtain ⟨b', o', A2, c2, y, rfl, _, _, HY, hy, k0, k1, k2⟩ := (HT.out.keep hd.keeps).get hlt2
        have hki : (k : Int) < s.length := by omega
        have hki2 : (k : Int) < t.length := by omega
        have hbad : ndB x y = false → decide (s = t) = false := fun h => by
          refine decide_eq_false fun e => ?_
          have : x = y := by rw [← HX.out, ← HY.out, e]
          rw [(ndB_iff x y).2 this] at h
          cases h
        have HBAD := hid hbad
        clear hbad
        by_cases n1 : x.name = y.name
        · have e1 : (x.name != y.name) = false := by simp [n1]
          by_cases n2 : x.parent = y.parent
          · have e2 : (x.parent != y.parent) = false := by simp [n2]
            obtain ⟨r, hr⟩ : ∃ r, r = decide (x.set = y.set) := ⟨_, rfl⟩
            have HI : Hid (∀ n, Calls Try.prog 23 #[.slice A1 x.set.length c1, .slice A2 y.set.length c2] (wr.drewN n) fun e w' => e = .returned (.bool r) ∧ Drawn (wr.drewN n) w') := hid fun n => by
              rw [hr]
              exact ints_any A1 A2 c1 c2 x.set y.set (wr.drewN n) (hx.keep (Drawn.n wr n).keeps) (hy.keep (Drawn.n wr n).keeps)
            have HR := hid hr
            have N1 := hid n1
            have N2 := hid n2
            have hxl := hx.len.1
            have hyl := hy.len.1
            clear hr hx hy n1 n2
            cases r
            · go_wp2_with fail
              go_quiet ((go_at_call 23; exact Calls.quiet_of (HI.out _)))
              go_wp2_with fail
              go_ret
              exact ⟨ret_bool (HBAD.out (by unfold ndB; rw [← HR.out]; simp)).symm, hd.drewN _⟩
            · go_wp2_with fail
              go_quiet ((go_at_call 23; exact Calls.quiet_of (HI.out _)))
              go_wp2_with fail
              go_roundw
              case rel => exact ⟨k + 1, by omega, by go_num, HB.out.succ (by unfold nd; rw [HX.out, HY.out]; unfold ndB; rw [← HR.out]; simp [N1.out, N2.out]), hd.drewN _⟩
              case measure => simp [intOf]; omega
          · have e2 : (x.parent != y.parent) = true := by simp [n2]
            have N2 := hid n2
            clear n2 hx hy
            go_wp2_with fail
            go_quiet (fail)
            go_wp2_with fail
            go_ret
            exact ⟨ret_bool (HBAD.out (by unfold ndB; simp [N2.out])).symm, hd.drewN _⟩
        · have e1 : (x.name != y.name) = true := by simp [n1]
          have N1 := hid n1
          clear n1 hx hy
          go_wp2_with fail
          go_quiet (fail)
          go_wp2_with fail
          go_ret
          exact ⟨ret_bool (HBAD.out (by unfold ndB; simp [N1.out])).symm, hd.drewN _⟩
      · go_wp2
        go_ret
        refine ⟨ret_bool ?_, hd⟩
        refine (decide_eq_true ?_).symm
        exact nd_ext HN.out fun i hi => (ndB_iff _ _).1 (HB.out i (by omega))
  · have hne : ((s.length : Int) != (t.length : Int)) = true := bne_iff_ne.2 (by omega)
    have HN := hid hn
    clear hn
    go_enter Try.func16, Try.ntmps16
    go_wp2
    go_ret
    exact ⟨ret_bool (decide_eq_false fun h => HN.out (by rw [h])).symm, Drawn.refl w⟩
end Go.Proofs.Ythhknonaebnooaa
set_option linter.unusedVariables false
set_option linter.unusedSimpArgs false
namespace Go.Proofs.Ythhknonaebnooaa
open Go.RowKit
attribute [local go_sem] cell_alloc_old

theorem sameev_any {D E : Dom} (A1 A2 B1 B2 : Option Addr) (c1 c2 d1 d2 : Nat) (g b g' b' : List Int) (w : World) (hg : RdI w D A1 c1 g) (hb : RdI w D A2 c2 b) (hg' : RdI w E B1 d1 g') (hb' : RdI w E B2 d2 b') :
    Calls Try.prog 21 #[.agg #[.slice A1 g.length c1, .slice A2 b.length c2], .agg #[.slice B1 g'.length d1, .slice B2 b'.length d2]] w fun e w' => e = .returned (.bool (decide (g = g') && decide (b = b'))) ∧ Below w.heap.size w w' := by
  have HG := hid hg.old
  have HB := hid hb.old
  have HG' := hid hg'.old
  have HB' := hid hb'.old
  clear hg hb hg' hb'
  go_enter Try.func21, Try.ntmps21
  go_upto_region 1 with (fail)
  refine wp_gen fun W hW => ?_
  have hbw : Below w.heap.size w W := by rw [hW]; go_grown
  have hx : Box W w.heap.size #[.slice A1 g.length c1, .slice A2 b.length c2] := by rw [hW]; exact (Box.new _ _ _ rfl).alloc _
  have hy : Box W (w.heap.size + 1) #[.slice B1 g'.length d1, .slice B2 b'.length d2] := by rw [hW]; exact Box.new _ _ _ (by simp)
  have HBW := hid hbw
  have HX := hid hx
  have HY := hid hy
  have x0 := hx 0 _ rfl
  have y0 := hy 0 _ rfl
  have hl := World.block_lt_of_cell? W _ x0
  have hl2 := World.block_lt_of_cell? W _ y0
  clear hW hbw hx hy
  go_wp2_with fail
  refine (ints_any A1 B1 c1 d1 g g' W (HG.out.keep (Keeps.of_below HBW.out fun _ h => h)) (HG'.out.keep (Keeps.of_below HBW.out fun _ h => h))).mono ?_
  rintro e W1 ⟨rfl, hd⟩
  have hb1 := hd.below W.heap.size
  have HX1 := HX.out.below hb1 (Nat.le_refl _)
  have HY1 := HY.out.below hb1 (Nat.le_refl _)
  have x1 := HX1 1 _ rfl
  have y1 := HY1 1 _ rfl
  have hs1 := hb1.size
  have HBW1 := hid (HBW.out.trans (hb1.mono HBW.out.size))
  have hl3 := World.block_lt_of_cell? W1 _ x1
  have hl4 := World.block_lt_of_cell? W1 _ y1
  clear hd hb1 HX1 HY1 x0 y0
  cases hgg : decide (g = g')
  · have HGG := hid hgg
    clear hgg
    go_wp2_with fail
    go_ret
    exact ⟨ret_bool (by rw [HGG.out]; rfl), HBW1.out⟩
  · have HGG := hid hgg
    clear hgg
    go_wp2_with fail
    refine (ints_any A2 B2 c2 d2 b b' W1 (HB.out.keep (Keeps.of_below HBW1.out fun _ h => h)) (HB'.out.keep (Keeps.of_below HBW1.out fun _ h => h))).mono ?_
    rintro e W2 ⟨rfl, hd⟩
    have HBW2 := hid (HBW1.out.trans (hd.below _))
    clear hd
    go_wp2_with fail
    go_ret
    exact ⟨ret_bool (by rw [HGG.out]; rfl), HBW2.out⟩

def namesN (b : Bu) : Int := if buchiB b then 2 * (b.next.length : Int) else 0
theorem rnames_any {D : Dom} (v : Value) (b : Bu) (w : World) (h : RdBu w D v b) :
    Calls Try.prog 15 #[v] w fun e w' => e = .returned (.int .i64 (namesN b)) ∧ Below w.heap.size w w' := by
  have HV := hid h.old
  obtain ⟨As, cs, An, cn, rfl, hs, hn⟩ := h
  have hnl := hn.len.1
  clear hs hn
  go_enter Try.func15, Try.ntmps15
  go_upto_region 1 with (fail)
  refine wp_gen fun W hW => ?_
  have hB : HasB W w.heap.size #[.int .i64 b.letters, .slice As b.start.length cs, .slice An b.next.length cn] b := by rw [hW]; exact HasB.new HV.out
  have HB := hid hB
  have HBW := hid (show Below w.heap.size w W by rw [hW]; go_grown)
  obtain ⟨x0, x1, x2, xl⟩ := hB.cells
  clear hW hB
  go_wp2_with fail
  refine (rbvalid_any _ b W HB.out.rd).mono ?_
  rintro e W1 ⟨rfl, hb⟩
  have HB1 := hid (HB.out.below hb)
  have HBW1 := hid (HBW.out.trans (hb.mono HBW.out.size))
  obtain ⟨x0, x1, x2, xl⟩ := HB1.out.cells
  clear hb
  cases hv : buchiB b
  · have HVV := hid hv
    clear hv
    go_wp2_with fail
    go_ret
    exact ⟨ret_int (by unfold namesN; rw [HVV.out]; rfl), HBW1.out⟩
  · have HVV := hid hv
    clear hv
    go_wp2_with fail
    go_ret
    exact ⟨ret_int (by unfold namesN; rw [HVV.out, if_pos rfl]), HBW1.out⟩
theorem tnames_any {D : Dom} (v : Value) (b : Bu) (w : World) (h : RdBu w D v b) :
    Calls Try.prog 14 #[v] w fun e w' => e = .returned (.int .i64 (namesN b)) ∧ Below w.heap.size w w' := by
  have HV := hid h.old
  obtain ⟨As, cs, An, cn, rfl, hs, hn⟩ := h
  have hnl := hn.len.1
  clear hs hn
  go_enter Try.func14, Try.ntmps14
  go_upto_region 1 with (fail)
  refine wp_gen fun W hW => ?_
  have hB : HasB W w.heap.size #[.int .i64 b.letters, .slice As b.start.length cs, .slice An b.next.length cn] b := by rw [hW]; exact HasB.new HV.out
  have HB := hid hB
  have HBW := hid (show Below w.heap.size w W by rw [hW]; go_grown)
  obtain ⟨x0, x1, x2, xl⟩ := hB.cells
  clear hW hB
  go_wp2_with fail
  refine (bvalid_any _ b W HB.out.rd).mono ?_
  rintro e W1 ⟨rfl, hb⟩
  have HB1 := hid (HB.out.below hb)
  have HBW1 := hid (HBW.out.trans (hb.mono HBW.out.size))
  obtain ⟨x0, x1, x2, xl⟩ := HB1.out.cells
  clear hb
  cases hv : buchiB b
  · have HVV := hid hv
    clear hv
    go_wp2_with fail
    go_ret
    exact ⟨ret_int (by unfold namesN; rw [HVV.out]; rfl), HBW1.out⟩
  · have HVV := hid hv
    clear hv
    go_wp2_with fail
    go_ret
    exact ⟨ret_int (by unfold namesN; rw [HVV.out, if_pos rfl]), HBW1.out⟩
end Go.Proofs.Ythhknonaebnooaa
set_option linter.unusedVariables false
set_option linter.unusedSimpArgs false
namespace Go.Proofs.Ythhknonaebnooaa
open Go.RowKit
attribute [local go_sem] cell_alloc_old

theorem union_snoc (t : List Nd) (i : Int) {k : Nat} (hk : k < t.length) : unionZ (t.take (k + 1)) i = unionZ (t.take k) i ++ (if (nd t k).parent = i then (nd t k).set else []) := by
  have hx : t[k] = nd t k := by simp [nd, List.getD, hk]
  rw [List.take_succ_eq_append_getElem hk, hx]
  simp [unionZ]
theorem union_len (t : List Nd) (i : Int) {m : Nat} (hm : ∀ k, k < t.length → (nd t k).set.length ≤ m) : ∀ k, k ≤ t.length → (unionZ (t.take k) i).length ≤ k * m
  | 0, _ => by simp [unionZ]
  | k + 1, hk => by
    have ih := union_len t i hm k (by omega)
    have h1 := hm k (by omega)
    rw [union_snoc t i (by omega), List.length_append, Nat.add_mul, Nat.one_mul]
    split
    · omega
    · simp; omega

set_option maxRecDepth 100000 in
set_option maxHeartbeats 2000000 in
theorem union_any {D : Dom} (A : Option Addr) (c : Nat) (t : List Nd) (i : Int) (w : World) (h : RdN w D A c t) (htl : t.length ≤ 10000) (hset : ∀ k, k < t.length → (nd t k).set.length ≤ 3000) :
    Calls Try.prog 67 #[.slice A t.length c, .int .i64 i] w fun e w' => ∃ A' c', e = .returned (.slice A' (unionZ t i).length c') ∧ Below w.heap.size w w' ∧ RdI w' (fun k => w.heap.size ≤ k) A' c' (unionZ t i) := by
  obtain ⟨i0, hti, hz0, hz1, hz2⟩ := info_parts int_info
  have hm := h.len.1
  have HR := hid h.old
  have HSET := hid hset
  clear h hset
  go_enter Try.func67, Try.ntmps67
  go_upto_region 2 with (fail)
  refine wp_gen fun W hW => ?_
  have hb : Below w.heap.size w W := by rw [hW]; go_grown
  have ho : W.ownsRow w.heap.size 3 1 (.slice (some ⟨w.heap.size, 0, none⟩) 0 0) 0 ((unionZ (t.take 0) i).map (.int .i64)) := by
    refine ⟨rfl, .inr ⟨w.heap.size, 0, #[], rfl, Nat.le_refl _, ?_, Nat.le_refl _, by decide, rfl, rfl⟩⟩
    rw [hW]; exact heap_alloc_new w _
  have HB := hid hb
  have HO := hid ho
  have hsz : w.heap.size < W.heap.size := by rw [hW]; simp only [World.size_alloc]; omega
  clear hW hb ho
  go_wp2_with fail
  go_loopw [5, 6] (fun s t' wr => ∃ (k n : Nat) (A' : Option Addr) (c' : Nat), k ≤ t.length ∧ n = (unionZ (t.take k) i).length ∧ t' = .int .i64 (k : Int) ∧ s = .slice A' n c' ∧ wr.ownsRow w.heap.size 3 1 (.slice A' n c') n ((unionZ (t.take k) i).map (.int .i64)) ∧ Below w.heap.size w wr) (fun _ t' _ => t.length - (intOf t').toNat)
  case atStart => exact ⟨0, 0, _, 0, Nat.zero_le _, rfl, rfl, rfl, HO.out, HB.out⟩
  case round =>
    obtain ⟨k, n, A', c', hk, hn, rfl, rfl, hown, hbr⟩ := hrel
    have HOX := hid hown
    have HBX := hid hbr
    have hnb : n ≤ k * 3000 := by rw [hn]; exact union_len t i HSET.out k hk
    have HNN := hid hn
    have hszr := hbr.size
    clear hown hbr hn
    by_cases hlt : k < t.length
    · obtain ⟨b, o, A2, c2, x, rfl, _, hbl, HX, hr, h0, h1, h2⟩ := (HR.out.keep (Keeps.of_below HBX.out fun _ h => h)).get hlt
      have hki : (k : Int) < t.length := by omega
      have hxl : x.set.length ≤ 3000 := by have := HSET.out k hlt; unfold nd at this; rw [HX.out] at this; exact this
      have HRX := hid hr
      have HSN := hid (union_snoc t i hlt)
      have hnd : nd t k = x := HX.out
      rw [hnd] at HSN
      have HS2 := hid HSN.out
      clear hr HSN hnd
      by_cases hp : x.parent = i
      · have hpe : (x.parent == i) = true := beq_iff_eq.2 hp
        have HP := hid hp
        clear hp
        go_wp2_with (at_builtin; go_must (refine wpList_append_rd _ rfl (.tmp 21) (.tmp 26) 22 rfl w.heap.size 3 i0 _ 1 8 Try.underlying22 hti hz0 hz1 hz2 rfl (by omega) (.slice A' n c') n _ rfl HOX.out _ A2 x.set.length c2 _ rfl HRX.out (by first | (simp [Value.oneCell']; done) | (intro v hv; obtain ⟨z, _, rfl⟩ := List.mem_map.1 hv; rfl)) (by omega) (maxLen_le (by omega)) (by first | omega | (simp; omega)) ?_); intro A5 c5 w5 hown5 hg5 hat5)
        have hb5 := Below.grown (B := w.heap.size) HBX.out hg5 (by omega) (fun k hk => (HOX.out.lt k hk).1)
        have HO5 := hid hown5
        have HB5 := hid hb5
        clear hown5 hg5 hat5 hb5
        go_roundw
        case rel =>
          refine ⟨k + 1, n + x.set.length, A5, c5, by omega, ?_, by go_num, rfl, ?_, HB5.out⟩
          · rw [HS2.out, if_pos HP.out, List.length_append, ← HNN.out]
          · rw [HS2.out, if_pos HP.out, List.map_append]; exact HO5.out
        case measure => simp [intOf]; omega
      · have hpe : (x.parent == i) = false := beq_eq_false_iff_ne.2 hp
        have HP := hid hp
        clear hp
        go_wp2_with fail
        go_roundw
        case rel =>
          refine ⟨k + 1, n, A', c', by omega, ?_, by go_num, rfl, ?_, HBX.out⟩
          · rw [HS2.out, if_neg HP.out, List.append_nil]; exact HNN.out
          · rw [HS2.out, if_neg HP.out, List.append_nil]; exact HOX.out
        case measure => simp [intOf]; omega
    · have hke : k = t.length := by omega
      have HKE := hid hke
      clear hke
      go_wp2_with fail
      go_ret
      have e2 : t.take k = t := by rw [HKE.out]; simp
      have ho := HOX.out
      have hn := HNN.out
      rw [e2] at ho hn
      refine ⟨A', c', ret_sl hn, HBX.out, ?_⟩
      unfold RdI
      rw [← hn]
      exact Rd.own ho (by omega) (fun _ h => h)
end Go.Proofs.Ythhknonaebnooaa
set_option linter.unusedVariables false
set_option linter.unusedSimpArgs false
namespace Go.Proofs.Ythhknonaebnooaa
open Go.RowKit
attribute [local go_sem] cell_alloc_old

/-- The marks mk in the block after that of the automaton. -/
structure Mk1 (w wr : World) (cs : Array Value) (b : Bu) (mk : List Bool) : Prop where
  below : Below w.heap.size w wr
  box : HasB wr w.heap.size cs b
  row : wr.heap[w.heap.size + 1]? = some (.cells (mk.map Value.bool).toArray 4 (0, 0))
theorem incB_at {n : Int} {l : List Int} (h : incB n l = true) {k : Nat} (hk : k < l.length) : 0 ≤ l.getD k 0 ∧ l.getD k 0 < n := by
  have := allN_true.1 h k hk
  unfold incAt at this
  simp only [Bool.and_eq_true, decide_eq_true_eq] at this
  exact ⟨this.1.1, this.1.2⟩
/-- What a well-formed automaton's moves are. -/
theorem buchi_next {b : Bu} (h : buchiB b = true) {q a : Nat} (hq : q < b.next.length) (ha : (a : Int) < b.letters) :
    ((b.next.getD q []).length : Int) = b.letters ∧ ∀ k, k < ((b.next.getD q []).getD a []).length → 0 ≤ (((b.next.getD q []).getD a []).getD k default).dst ∧ (((b.next.getD q []).getD a []).getD k default).dst < (b.next.length : Int) := by
  unfold buchiB at h
  simp only [Bool.and_eq_true] at h
  have h1 := allN_true.1 h.2 q hq
  unfold rowOkB at h1
  simp only [Bool.and_eq_true, decide_eq_true_eq] at h1
  refine ⟨h1.1, fun k hk => ?_⟩
  have h2 := allN_true.1 h1.2 a (by omega)
  have h3 := allN_true.1 h2 k hk
  unfold movesAt at h3
  simp only [Bool.and_eq_true, decide_eq_true_eq] at h3
  exact ⟨h3.1.1, h3.1.2⟩
def hitM (l : List Mv) (well : Bool) (s : Int) : Bool := l.any fun m => decide (m.dst = s) && (m.good || !well)
theorem hitB_snoc (b : Bu) (set : List Int) (a : Int) (well : Bool) (s : Int) {k : Nat} (hk : k < set.length) : hitB b (set.take (k + 1)) a well s = (hitB b (set.take k) a well s || hitM (mvs b (set.getD k 0) a) well s) := by
  have hx : set[k] = set.getD k 0 := by simp [List.getD, hk]
  rw [List.take_succ_eq_append_getElem hk, hx]
  simp [hitB, hitM]
theorem hitM_snoc (l : List Mv) (well : Bool) (s : Int) {k : Nat} (hk : k < l.length) : hitM (l.take (k + 1)) well s = (hitM (l.take k) well s || (decide ((l.getD k default).dst = s) && ((l.getD k default).good || !well))) := by
  have hx : l[k] = l.getD k default := by simp [List.getD, hk]
  rw [List.take_succ_eq_append_getElem hk, hx]
  simp [hitM]
section
variable {w wr : World} {cs : Array Value} {b : Bu} {mk : List Bool}
theorem Mk1.set (h : Mk1 w wr cs b mk) (i : Nat) (v : Bool) (hd : RdBu wr (· < w.heap.size) (.agg cs) b) : Mk1 w (wr.setCell ⟨w.heap.size + 1, i, none⟩ (.bool v)) cs b (mk.set i v) := by
  refine ⟨h.below.setCell (p := ⟨w.heap.size + 1, i, none⟩) (Nat.le_succ _) _, ⟨(Below.heap_setCell _ _ _ _ (by show w.heap.size ≠ w.heap.size + 1; omega)).trans h.box.blk, ?_⟩, ?_⟩
  · have hk : Keeps (fun k => k < w.heap.size) wr (wr.setCell ⟨w.heap.size + 1, i, none⟩ (.bool v)) := ⟨by simp, fun k hk _ => Below.heap_setCell _ _ _ _ (by have hk : k < w.heap.size := hk; show k ≠ w.heap.size + 1; omega)⟩
    exact (hd.keep hk).mono fun k hk _ => by have hk : k < w.heap.size := hk; have := h.below.size; simp; omega
  · rw [set_block h.row (i := i) (.bool v), List.map_set]
    simp
theorem Mk1.get (h : Mk1 w wr cs b mk) {i : Nat} (hi : i < mk.length) : wr.cell? ⟨w.heap.size + 1, i, none⟩ = some (.bool (mk.getD i false)) ∧ wr.frozen? ⟨w.heap.size + 1, i, none⟩ = false :=
  ⟨block_cell h.row (by simp [List.getD, hi]), block_free h.row⟩
end
/-- The states reached among the first k. -/
def reachTo (b : Bu) (set : List Int) (a : Int) (well : Bool) (k : Nat) : List Int := ((List.range k).map fun i : Nat => (i : Int)).filter (hitB b set a well)
theorem reachTo_snoc (b : Bu) (set : List Int) (a : Int) (well : Bool) (k : Nat) : reachTo b set a well (k + 1) = reachTo b set a well k ++ (if hitB b set a well k then [(k : Int)] else []) := by
  unfold reachTo
  rw [List.range_succ, List.map_append, List.filter_append]
  cases hh : hitB b set a well k <;> simp [hh]
theorem reachTo_len (b : Bu) (set : List Int) (a : Int) (well : Bool) (k : Nat) : (reachTo b set a well k).length ≤ k := by
  unfold reachTo
  exact Nat.le_trans (List.length_filter_le _ _) (by simp)
theorem bool_info : (Try.prog.info? 4).map (fun i => (i.zero, i.size, i.bytes)) = some (some (.bool false), 1, 1) := by kernel_rfl
theorem Mk1.drewN {w wr : World} {cs : Array Value} {b : Bu} {mk : List Bool} (h : Mk1 w wr cs b mk) (n : Nat) : Mk1 w (wr.drewN n) cs b mk :=
  ⟨below_drewN h.below n, ⟨h.box.blk, h.box.rd.keep (Drawn.n wr n).keeps⟩, h.row⟩

set_option maxRecDepth 100000 in
set_option maxHeartbeats 4000000 in
theorem reached_any {D E : Dom} (v : Value) (b : Bu) (A : Option Addr) (c : Nat) (set : List Int) (a : Int) (well : Bool) (w : World) (h : RdBu w D v b) (hs : RdI w E A c set) (hb : buchiB b = true) (hset : ∀ k, k < set.length → 0 ≤ set.getD k 0 ∧ set.getD k 0 < (b.next.length : Int)) (a0 : 0 ≤ a) (a1 : a < b.letters) :
    Calls Try.prog 24 #[v, .slice A set.length c, .int .i64 a, .bool well] w fun e w' => ∃ A' c', e = .returned (.slice A' (reachZ b set a well).length c') ∧ Below w.heap.size w w' ∧ RdI w' (fun k => w.heap.size ≤ k) A' c' (reachZ b set a well) := by
  obtain ⟨i0, hti, hz0, hz1, hz2⟩ := info_parts int_info
  obtain ⟨i1, htb, hy0, hy1, hy2⟩ := info_parts bool_info
  have hy2' : i1.bytes = 1 := hy2
  have HV := hid h.old
  have HS := hid hs.old
  have hsl := hs.len.1
  have HBU := hid hb
  have HSE := hid hset
  have hn3 : b.next.length ≤ 3000 := by
    unfold buchiB at hb
    simp only [Bool.and_eq_true, decide_eq_true_eq] at hb
    exact hb.1.1.2
  obtain ⟨As, cs, An, cn, rfl, ho, hn⟩ := h
  obtain ⟨an, rfl⟩ : ∃ an : Nat, a = (an : Int) := ⟨a.toNat, by omega⟩
  have hmk := run_make_zrow (P := Try.prog) 73 4 i1 (.bool false) 1 Try.underlying73 htb hy0 hy1 hy2 rfl .i64 .i64 b.next.length (by omega) (by omega)
  have HN0 := hid (show RdVVV w (· < w.heap.size) An cn b.next from monoVVV hn fun _ _ hl => hl)
  clear ho hn hs hb hset
  go_enter Try.func24, Try.ntmps24
  go_upto_region 2 with (fail)
  refine wp_gen fun W hW => ?_
  have hM : Mk1 w W #[.int .i64 b.letters, .slice As b.start.length cs, .slice An b.next.length cn] b (List.replicate b.next.length false) := by
    obtain ⟨w1, h1⟩ : ∃ w1, w1 = w.alloc (.cells #[.int .i64 b.letters, .slice As b.start.length cs, .slice An b.next.length cn] 25) := ⟨_, rfl⟩
    have s1 : w1.heap.size = w.heap.size + 1 := by rw [h1]; simp
    have m1 : HasB w1 w.heap.size #[.int .i64 b.letters, .slice As b.start.length cs, .slice An b.next.length cn] b := by rw [h1]; exact HasB.new HV.out
    have b1 : Below w.heap.size w w1 := by rw [h1]; go_grown
    rw [← h1] at hW
    have b2 : Below w1.heap.size w1 W := by rw [hW]; go_grown
    refine ⟨b1.trans (b2.mono b1.size), m1.below b2, ?_⟩
    rw [hW, ← s1, heap_alloc_new]; simp [zrow]
  have HM := hid hM
  clear hW hM
  go_wp2_with fail
  go_loopw [10] (fun t wr => ∃ (k : Nat) (mk : List Bool), k ≤ set.length ∧ t = .int .i64 (k : Int) ∧ Mk1 w wr #[.int .i64 b.letters, .slice As b.start.length cs, .slice An b.next.length cn] b mk ∧ mk.length = b.next.length ∧ ∀ s : Nat, s < b.next.length → mk.getD s false = hitB b (set.take k) an well s) (fun t _ => set.length - (intOf t).toNat)
  case atStart => exact ⟨0, _, Nat.zero_le _, rfl, HM.out, by simp, fun s hs => by simp [hitB, List.getD, hs]⟩
  case round =>
    obtain ⟨k, mk, hk, rfl, hM, hmkl, hhit⟩ := hrel
    have HM := hid hM
    have HML := hid hmkl
    have HH := hid hhit
    have hbw := hM.below
    obtain ⟨x0, x1, x2, xl⟩ := hM.box.cells
    have hrow := lt_of_block hM.row
    have HSR := hid (HS.out.keep (Keeps.of_below hbw fun _ h => h))
    have HBWR := hid hbw
    clear hM hmkl hhit hbw
    by_cases hlt : k < set.length
    · obtain ⟨g, o, q, rfl, _, hgl, HX, hc⟩ := HSR.out.get hlt
      have hq := HSE.out k hlt
      rw [HX.out] at hq
      obtain ⟨qn, rfl⟩ : ∃ qn : Nat, q = (qn : Int) := ⟨q.toNat, by omega⟩
      have hqn : qn < b.next.length := by omega
      obtain ⟨g2, o2, A2, c2, row, hAn, _, hgl2, HR, hr, hc2⟩ := HN0.out.get hqn
      subst hAn
      have hbn := buchi_next HBU.out hqn a1
      rw [HR.out] at hbn
      have hrl := hr.len.1
      have han : an < row.length := by omega
      obtain ⟨g3, o3, A3, c3, l, hA2, _, hgl3, HL, hl, hc3⟩ := RdOf.get hr han
      subst hA2
      have hll := hl.len.1
      have hrng := hbn.2
      rw [HL.out] at hrng
      have hqi : (qn : Int) < b.next.length := by omega
      have hai : (an : Int) < row.length := by omega
      have hki : (k : Int) < set.length := by omega
      have HRNG := hid hrng
      have HMV := hid (show mvs b (set.getD k 0) an = l by unfold mvs; rw [HX.out]; show (b.next.getD qn []).getD an [] = l; rw [HR.out, HL.out])
      have HLR := hid hl
      have hc2 := (HBWR.out.cell (p := ⟨g2, o2 + qn, none⟩) hgl2).trans hc2
      have hc3 := (HBWR.out.cell (p := ⟨g3, o3 + an, none⟩) hgl3).trans hc3
      have hws := HBWR.out.size
      clear hl hr hbn hrng
      go_wp2_with fail
      go_quiet (fail)
      go_wp2_with fail
      go_loopw [12] (fun t wr' => ∃ (e : Nat) (mk' : List Bool), e ≤ l.length ∧ t = .int .i64 (e : Int) ∧ Mk1 w wr' #[.int .i64 b.letters, .slice As b.start.length cs, .slice (some ⟨g2, o2, none⟩) b.next.length cn] b mk' ∧ mk'.length = b.next.length ∧ ∀ s : Nat, s < b.next.length → mk'.getD s false = (hitB b (set.take k) an well s || hitM (l.take e) well s)) (fun t _ => l.length - (intOf t).toNat)
      case atStart => exact ⟨0, mk, Nat.zero_le _, rfl, by first | exact HM.out | exact HM.out.drewN _, HML.out, fun s hs => by rw [HH.out s hs]; simp [hitM]⟩
      case round =>
        obtain ⟨e, mk', he, rfl, hM, hml, hh⟩ := hrel
        have HM2 := hid hM
        have HML2 := hid hml
        have HH2 := hid hh
        have HLR2 := hid (HLR.out.keep (Keeps.of_below hM.below fun _ h => h))
        have hrow2 := lt_of_block hM.row
        have HB2 := hid hM.below
        clear hM hml hh
        by_cases hle : e < l.length
        · obtain ⟨g4, o4, m, rfl, _, hgl4, HMM, hm0, hm1⟩ := HLR2.out.get hle
          have hei : (e : Int) < l.length := by omega
          have hd := HRNG.out e hle
          rw [HMM.out] at hd
          obtain ⟨dst, gd⟩ := m
          obtain ⟨dn, rfl⟩ : ∃ dn : Nat, dst = (dn : Int) := ⟨dst.toNat, by have := hd.1; simp only at this; omega⟩
          simp only at hm0 hm1 hd
          have hdn : dn < b.next.length := by omega
          have hdi : (dn : Int) < b.next.length := by omega
          obtain ⟨q1, q2⟩ := HM2.out.get (i := dn) (by rw [HML2.out]; exact hdn)
          have hsn : ∀ s : Nat, hitM (l.take (e + 1)) well (s : Int) = (hitM (l.take e) well s || (decide ((dn : Int) = (s : Int)) && (gd || !well))) := fun s => by
            rw [hitM_snoc l well s hle, HMM.out]
          have HSN := hid hsn
          clear hsn hd
          by_cases hc : (gd || !well) = true
          · have HC := hid hc
            have hyes : ∀ s : Nat, s < b.next.length → (mk'.set dn true).getD s false = (hitB b (set.take k) an well s || hitM (l.take (e + 1)) well s) := fun s hs => by
              rw [HSN.out s, HC.out]
              by_cases es : dn = s
              · subst es
                have : (mk'.set dn true).getD dn false = true := by simp [List.getD, HML2.out, hs]
                rw [this]; simp
              · have e1 : (mk'.set dn true).getD s false = mk'.getD s false := by simp [List.getD, es]
                have e2 : decide ((dn : Int) = (s : Int)) = false := decide_eq_false (by omega)
                rw [e1, HH2.out s hs, e2]; simp
            have HYES := hid hyes
            have HRD := hid (HV.out.keep (Keeps.of_below HB2.out fun _ h => h))
            clear hyes
            cases gd <;> cases well <;> first
              | (exfalso; revert hc; decide)
              | (clear hc
                 go_wp2_with fail
                 go_roundw
                 case rel => exact ⟨e + 1, _, by omega, by go_num, HM2.out.set dn true HRD.out, by rw [List.length_set]; exact HML2.out, HYES.out⟩
                 case measure => simp [intOf]; omega)
          · have HC := hid (Bool.eq_false_iff.2 hc)
            have hno : ∀ s : Nat, s < b.next.length → mk'.getD s false = (hitB b (set.take k) an well s || hitM (l.take (e + 1)) well s) := fun s hs => by
              rw [HSN.out s, HC.out, HH2.out s hs]; simp
            have HNO := hid hno
            clear hno
            cases gd <;> cases well <;> first
              | (exfalso; revert hc; decide)
              | (clear hc
                 go_wp2_with fail
                 go_roundw
                 case rel => exact ⟨e + 1, _, by omega, by go_num, HM2.out, HML2.out, HNO.out⟩
                 case measure => simp [intOf]; omega)
        · have hle2 : l.take e = l := List.take_of_length_le (by omega)
          have HLE := hid hle2
          clear hle2
          go_wp2_with fail
          go_roundw
          case rel => exact ⟨k + 1, mk', by omega, by go_num, HM2.out, HML2.out, fun s hs => by rw [hitB_snoc b set an well s hlt, HMV.out, HH2.out s hs, HLE.out]⟩
          case measure => simp [intOf]; omega
    · have hst : set.take k = set := List.take_of_length_le (by omega)
      have hall : ∀ s : Nat, s < b.next.length → mk.getD s false = hitB b set an well s := fun s hs => by rw [HH.out s hs, hst]
      have HALL := hid hall
      obtain ⟨W0, hW0⟩ : ∃ W0 : World, W0 = wr := ⟨_, rfl⟩
      rw [← hW0] at HM hrow ⊢
      clear hst hall hW0 HSR HBWR xl x0 x1 x2
      go_upto_region 12 with (fail)
      refine wp_gen fun W3 hW3 => ?_
      have hb3 : Below W0.heap.size W0 W3 := by rw [hW3]; go_grown
      have ho3 : W3.ownsRow W0.heap.size 3 1 (.slice (some ⟨W0.heap.size, 0, none⟩) 0 0) 0 ((reachTo b set an well 0).map (.int .i64)) := by
        refine ⟨rfl, .inr ⟨W0.heap.size, 0, #[], rfl, Nat.le_refl _, ?_, Nat.le_refl _, by decide, rfl, rfl⟩⟩
        rw [hW3]; exact heap_alloc_new W0 _
      have HR3 := hid ((hb3.block _ hrow).trans HM.out.row)
      have HB3 := hid (HM.out.below.trans (hb3.mono HM.out.below.size))
      have HO3 := hid ho3
      have hs3 : W0.heap.size < W3.heap.size := by rw [hW3]; simp only [World.size_alloc]; omega
      have hws := HM.out.below.size
      clear hW3 hb3 ho3
      go_wp2_with fail
      go_loopw [13, 14] (fun s t wr => ∃ (i n' : Nat) (A' : Option Addr) (c' : Nat), i ≤ b.next.length ∧ n' = (reachTo b set an well i).length ∧ t = .int .i64 (i : Int) ∧ s = .slice A' n' c' ∧ wr.ownsRow W0.heap.size 3 1 (.slice A' n' c') n' ((reachTo b set an well i).map (.int .i64)) ∧ Below W0.heap.size W3 wr) (fun _ t _ => b.next.length - (intOf t).toNat)
      case atStart => exact ⟨0, 0, _, 0, Nat.zero_le _, rfl, rfl, rfl, HO3.out, Below.refl _ _⟩
      case round =>
        obtain ⟨i, n', A', c', hi, hn', rfl, rfl, hown, hbr⟩ := hrel
        have HOX := hid hown
        have HBX := hid hbr
        have hnb : n' ≤ i := by rw [hn']; exact reachTo_len b set an well i
        have HNN := hid hn'
        have hszr := hbr.size
        have hrw := (hbr.block _ hrow).trans HR3.out
        have hrl := lt_of_block hrw
        have HRW := hid hrw
        clear hown hbr hn' hrw
        by_cases hlt3 : i < b.next.length
        · have hii : (i : Int) < b.next.length := by omega
          have q1 : wr.cell? ⟨w.heap.size + 1, i, none⟩ = some (.bool (mk.getD i false)) := block_cell HRW.out (by simp [List.getD, HML.out, hlt3])
          rw [HALL.out i hlt3] at q1
          have HSN := hid (reachTo_snoc b set an well i)
          cases hh : hitB b set an well i
          · rw [hh] at q1
            have HHH := hid hh
            clear hh
            go_wp2_with fail
            go_roundw
            case rel =>
              refine ⟨i + 1, n', A', c', by omega, ?_, by go_num, rfl, ?_, HBX.out⟩
              · rw [HSN.out, HHH.out]; simpa using HNN.out
              · rw [HSN.out, HHH.out]; simpa using HOX.out
            case measure => simp [intOf]; omega
          · rw [hh] at q1
            have HHH := hid hh
            clear hh
            go_wp2_with (at_builtin; go_must (refine wpList_append_rd _ rfl (.tmp 69) (.tmp 71) 22 rfl W0.heap.size 3 i0 _ 1 8 Try.underlying22 hti hz0 hz1 hz2 rfl (by omega) (.slice A' n' c') n' _ rfl (HOX.out.alloc _) _ (some ⟨wr.heap.size, 0, none⟩) 1 1 _ rfl (Rd.cell1 (cell_new wr _ _ _ _ _ rfl rfl)) (by simp [Value.oneCell']) (by omega) (maxLen_le (by omega)) (by simp; omega) ?_); intro A5 c5 w5 hown5 hg5 hat5)
            have hb5 := Below.grown (B := W0.heap.size) (HBX.out.trans ((show Below wr.heap.size wr _ from by go_grown).mono (by omega))) hg5 (by simp; omega) (fun k hk => (HOX.out.lt k hk).1)
            have HO5 := hid hown5
            have HB5 := hid hb5
            clear hown5 hg5 hat5 hb5
            go_roundw
            case rel =>
              refine ⟨i + 1, n' + 1, A5, c5, by omega, ?_, by go_num, rfl, ?_, HB5.out⟩
              · rw [HSN.out, HHH.out]; simp [← HNN.out]
              · rw [HSN.out, HHH.out]; simpa using HO5.out
            case measure => simp [intOf]; omega
        · have hie : i = b.next.length := by omega
          have HIE := hid hie
          clear hie
          go_wp2_with fail
          go_ret
          have hn2 := HNN.out
          have ho2 := HOX.out
          rw [HIE.out] at hn2 ho2
          have e : reachTo b set an well b.next.length = reachZ b set an well := rfl
          rw [e] at hn2 ho2
          refine ⟨A', c', ret_sl hn2, HB3.out.trans (HBX.out.mono hws), ?_⟩
          unfold RdI
          rw [← hn2]
          exact (Rd.own ho2 (by omega) (fun _ h => h)).mono fun k hk _ => by have hk : W0.heap.size ≤ k := hk; show w.heap.size ≤ k; omega
end Go.Proofs.Ythhknonaebnooaa
set_option linter.unusedVariables false
set_option linter.unusedSimpArgs false
namespace Go.Proofs.Ythhknonaebnooaa
open Go.RowKit
attribute [local go_sem] cell_alloc_old

/-- Parents stand before their children. -/
def Up (t : List Nd) : Prop := ∀ k, k < t.length → -1 ≤ (nd t k).parent ∧ (nd t k).parent < (k : Int)
theorem belowN_fuel {t : List Nd} (hu : Up t) (top : Int) : ∀ (n m i : Nat), i < t.length → i < n → i < m → belowN t top n i = belowN t top m i
  | 0, _, _, _, h, _ => absurd h (Nat.not_lt_zero _)
  | _, 0, _, _, _, h => absurd h (Nat.not_lt_zero _)
  | n + 1, m + 1, i, hi, h1, h2 => by
    have hp := hu i hi
    show (decide (0 ≤ (nd t (i : Int).toNat).parent) && (decide ((nd t (i : Int).toNat).parent = top) || belowN t top n (nd t (i : Int).toNat).parent)) = (decide (0 ≤ (nd t (i : Int).toNat).parent) && (decide ((nd t (i : Int).toNat).parent = top) || belowN t top m (nd t (i : Int).toNat).parent))
    rw [Int.toNat_natCast]
    by_cases h0 : 0 ≤ (nd t i).parent
    · obtain ⟨p, hpe⟩ : ∃ p : Nat, (nd t i).parent = (p : Int) := ⟨(nd t i).parent.toNat, by omega⟩
      rw [hpe, belowN_fuel hu top n m p (by omega) (by omega) (by omega)]
    · rw [decide_eq_false h0]; rfl
/-- Is the node at place j top, or below it? -/
def atUp (t : List Nd) (top j : Int) : Bool := decide (0 ≤ j) && (decide (j = top) || belowN t top t.length j)
theorem below_atUp {t : List Nd} (hu : Up t) (top : Int) {i : Nat} (hi : i < t.length) : belowN t top t.length i = atUp t top (nd t i).parent := by
  rw [belowN_fuel hu top t.length (t.length + 1) i hi hi (by omega)]
  show (decide (0 ≤ (nd t (i : Int).toNat).parent) && (decide ((nd t (i : Int).toNat).parent = top) || belowN t top t.length (nd t (i : Int).toNat).parent)) = _
  rw [Int.toNat_natCast]; rfl

set_option maxRecDepth 100000 in
set_option maxHeartbeats 1000000 in
theorem below_any {D : Dom} (A : Option Addr) (c : Nat) (t : List Nd) (i : Nat) (top : Int) (w : World) (h : RdN w D A c t) (hu : Up t) (hi : i < t.length) :
    Calls Try.prog 68 #[.slice A t.length c, .int .i64 (i : Int), .int .i64 top] w fun e w' => e = .returned (.bool (belowN t top t.length i)) ∧ w' = w := by
  have hm := h.len.1
  have HR := hid h
  have HU := hid hu
  obtain ⟨b, o, A2, c2, x, rfl, _, hbl, HX, hr, h0, h1, h2⟩ := h.get hi
  have hii : (i : Int) < t.length := by omega
  have HEND := hid (below_atUp hu top hi)
  have hp := hu i hi
  have hnd : nd t i = x := HX.out
  rw [hnd] at hp
  have HND := hid hnd
  clear h hr hu hnd
  go_enter Try.func68, Try.ntmps68
  go_wp2_with fail
  go_loop [1] (fun s => ∃ j : Int, -1 ≤ j ∧ j < t.length ∧ s = .int .i64 j ∧ Hid (belowN t top t.length i = atUp t top j)) (fun s => (intOf s + 1).toNat)
  case atStart => exact ⟨x.parent, hp.1, by omega, rfl, hid (by rw [HEND.out, HND.out])⟩
  case round =>
    obtain ⟨j, j0, j1, rfl, hres⟩ := hrel
    by_cases hj : 0 ≤ j
    · obtain ⟨jn, rfl⟩ : ∃ jn : Nat, j = (jn : Int) := ⟨j.toNat, by omega⟩
      have hjn : jn < t.length := by omega
      obtain ⟨b', o', A3, c3, y, hA, _, _, HY, hr, k0, k1, k2⟩ := HR.out.get hjn
      injection hA with hA
      injection hA with hb ho
      subst hb ho
      have hpj := HU.out jn hjn
      have hndj : nd t jn = y := HY.out
      rw [hndj] at hpj
      have HNJ := hid hndj
      clear hr hndj
      by_cases ht : (jn : Int) = top
      · have hte : ((jn : Int) == top) = true := beq_iff_eq.2 ht
        have HT := hid ht
        clear ht
        go_wp2_with fail
        go_ret
        exact ⟨ret_bool (by rw [hres.out]; unfold atUp; simp [HT.out]; have := HT.out; omega), rfl⟩
      · have hte : ((jn : Int) == top) = false := beq_eq_false_iff_ne.2 ht
        have HT := hid ht
        clear ht
        go_wp2_with fail
        go_round
        case rel => exact ⟨y.parent, hpj.1, by omega, rfl, hid (by
          rw [hres.out]
          unfold atUp
          rw [below_atUp HU.out top hjn, HNJ.out, decide_eq_true hj, decide_eq_false HT.out]
          simp [atUp])⟩
        case measure => simp [intOf]; omega
    · have hjd : decide (0 ≤ j) = false := decide_eq_false hj
      have HJ := hid hj
      clear hj
      go_wp2_with fail
      go_ret
      exact ⟨ret_bool (by rw [hres.out]; unfold atUp; rw [decide_eq_false (by have := HJ.out; omega)]; rfl), rfl⟩
end Go.Proofs.Ythhknonaebnooaa
set_option linter.unusedVariables false
set_option linter.unusedSimpArgs false
namespace Go.Proofs.Ythhknonaebnooaa
open Go.RowKit
attribute [local go_sem] cell_alloc_old

/-- Does node i keep the state s, as far as the siblings before n are concerned? -/
def keptC (t : List Nd) (i : Nat) (s : Int) : Bool := decide (i = 0) || inB (nd t (nd t i).parent.toNat).set s
def sibC (t : List Nd) (i : Nat) (s : Int) (n : Nat) : Bool := decide (n = 0) || !decide ((nd t n).parent = (nd t i).parent) || !inB (nd t n).set s
def keptTo (t : List Nd) (i : Nat) (s : Int) (n : Nat) : Bool := keptC t i s && allN n (sibC t i s)
theorem keptTo_snoc (t : List Nd) (i : Nat) (s : Int) (n : Nat) : keptTo t i s (n + 1) = (keptTo t i s n && sibC t i s n) := by
  unfold keptTo allN
  rw [List.range_succ, List.all_append]
  simp [Bool.and_assoc]
theorem keptTo_down {t : List Nd} {i : Nat} {s : Int} {n m : Nat} (h : keptTo t i s n = false) (hm : n ≤ m) : keptTo t i s m = false := by
  induction m with
  | zero => obtain rfl : n = 0 := by omega
            exact h
  | succ m ih =>
    by_cases e : n = m + 1
    · rw [← e]; exact h
    · rw [keptTo_snoc, ih (by omega)]; rfl
theorem trimmed_kept (t : List Nd) (i : Nat) : trimmedZ t i = (nd t i).set.filter fun s => decide (i = 0) || keptTo t i s i := by
  unfold trimmedZ
  congr 1
  funext s
  unfold keptTo keptC sibC allN
  by_cases h : i = 0 <;> simp [h]
theorem keptTo_zero (t : List Nd) (s : Int) (n : Nat) (hn : n ≤ 1) : keptTo t 0 s n = true := by
  rcases (show n = 0 ∨ n = 1 by omega) with rfl | rfl
  · simp [keptTo, keptC, allN]
  · simp [keptTo, keptC, sibC, allN]
end Go.Proofs.Ythhknonaebnooaa
set_option linter.unusedVariables false
set_option linter.unusedSimpArgs false
namespace Go.Proofs.Ythhknonaebnooaa
open Go.RowKit
set_option linter.unusedSectionVars false

theorem filter_less {α : Type} (p q : α → Bool) : ∀ (l : List α), (∀ x ∈ l, q x = true → p x = true) → (∃ x ∈ l, p x = true ∧ q x = false) → (l.filter q).length < (l.filter p).length
  | [], _, ⟨x, hx, _⟩ => by cases hx
  | a :: l, h, ⟨x, hx, h1, h2⟩ => by
    have hle : ∀ (l : List α), (∀ x ∈ l, q x = true → p x = true) → (l.filter q).length ≤ (l.filter p).length := fun l => by
      induction l with
      | nil => exact fun _ => Nat.le_refl _
      | cons b l ih =>
        intro hb
        have := ih fun x hx => hb x (List.mem_cons_of_mem _ hx)
        rw [List.filter_cons, List.filter_cons]
        cases hq : q b
        · cases hp : p b <;> simp <;> omega
        · rw [hb b (by simp) hq]; simp; omega
    have hl := hle l fun x hx => h x (List.mem_cons_of_mem _ hx)
    rw [List.filter_cons, List.filter_cons]
    rcases List.mem_cons.1 hx with rfl | hx
    · rw [h1, h2]; simp; omega
    · have := filter_less p q l (fun x hx => h x (List.mem_cons_of_mem _ hx)) ⟨x, hx, h1, h2⟩
      cases hq : q a
      · cases hp : p a <;> simp <;> omega
      · rw [h a (by simp) hq]; simp; omega

section
variable {κ β γ : Type} [DecidableEq κ]
/-- What a list of entries holds at a key; the list with a key set. -/
def lookB (l : List (κ × β)) (k : κ) : Option β := (l.find? fun p => decide (p.1 = k)).map (·.2)
def updB (l : List (κ × β)) (k : κ) (v : β) : List (κ × β) := if k ∈ l.map (·.1) then l.modify ((l.map (·.1)).idxOf k) (fun _ => (k, v)) else l ++ [(k, v)]
def valB (f : β → γ) (l : List (κ × β)) : List (κ × γ) := l.map fun p => (p.1, f p.2)
theorem valB_keys (f : β → γ) (l : List (κ × β)) : (valB f l).map (·.1) = l.map (·.1) := by unfold valB; rw [List.map_map]; rfl
theorem lookB_val (f : β → γ) (l : List (κ × β)) (k : κ) : lookB (valB f l) k = (lookB l k).map f := by
  unfold lookB valB
  rw [List.find?_map]
  show ((l.find? _).map _).map _ = _
  rw [Option.map_map, Option.map_map]; rfl
theorem updB_val (f : β → γ) (l : List (κ × β)) (k : κ) (v : β) : valB f (updB l k v) = updB (valB f l) k (f v) := by
  unfold updB
  rw [valB_keys]
  split
  · unfold valB
    apply List.ext_getElem?
    intro i
    rw [List.getElem?_map, List.getElem?_modify, List.getElem?_modify, List.getElem?_map]
    by_cases e : (l.map (·.1)).idxOf k = i
    · simp only [e, if_true]
      rcases l[i]? with _ | p <;> rfl
    · simp only [e, if_false]
      rcases l[i]? with _ | p <;> rfl
  · unfold valB; rw [List.map_append]; rfl
theorem lookB_none {l : List (κ × β)} {k : κ} (h : k ∉ l.map (·.1)) : lookB l k = none := by
  unfold lookB
  rw [List.find?_eq_none.2]
  · rfl
  · intro p hp
    simp only [decide_eq_true_eq]
    intro e
    exact h (e ▸ List.mem_map_of_mem hp)
theorem lookB_some {l : List (κ × β)} {k : κ} {v : β} (h : lookB l k = some v) : (k, v) ∈ l := by
  unfold lookB at h
  rcases hf : l.find? (fun p => decide (p.1 = k)) with _ | p
  · rw [hf] at h; cases h
  · rw [hf] at h
    have h1 := List.find?_some hf
    have h2 := List.mem_of_find?_eq_some hf
    simp only [Option.map_some, Option.some.injEq] at h
    rw [decide_eq_true_eq] at h1
    subst h1
    subst h
    exact h2
theorem lookB_cons (p : κ × β) (l : List (κ × β)) (k : κ) : lookB (p :: l) k = if p.1 = k then some p.2 else lookB l k := by
  unfold lookB
  rw [List.find?_cons]
  by_cases h : p.1 = k
  · rw [decide_eq_true h, if_pos h]; rfl
  · rw [decide_eq_false h, if_neg h]
theorem lookB_append (l m : List (κ × β)) (k : κ) : lookB (l ++ m) k = (lookB l k).or (lookB m k) := by
  unfold lookB
  rw [List.find?_append]
  generalize l.find? (fun p => decide (p.1 = k)) = a
  rcases a with _ | p <;> rfl
theorem lookB_upd (l : List (κ × β)) (k : κ) (v : β) (j : κ) : lookB (updB l k v) j = if j = k then some v else lookB l j := by
  unfold updB
  split
  · rename_i hk
    induction l with
    | nil => simp at hk
    | cons p l ih =>
      rw [List.map_cons]
      by_cases hp : p.1 = k
      · have e0 : (p.1 :: l.map (·.1)).idxOf k = 0 := by rw [List.idxOf_cons, hp]; simp
        rw [e0]
        show lookB ((k, v) :: l) j = _
        rw [lookB_cons, lookB_cons]
        dsimp only
        by_cases hj : j = k
        · rw [if_pos hj.symm, if_pos hj]
        · rw [if_neg (fun e => hj e.symm), if_neg hj, if_neg (by rw [hp]; exact fun e => hj e.symm)]
      · have e1 : (p.1 :: l.map (·.1)).idxOf k = (l.map (·.1)).idxOf k + 1 := idxOf_cons_ne _ hp
        have hk' : k ∈ l.map (·.1) := by
          rw [List.map_cons, List.mem_cons] at hk
          exact hk.resolve_left (fun e => hp e.symm)
        rw [e1]
        show lookB (p :: l.modify _ _) j = _
        rw [lookB_cons, lookB_cons, ih hk']
        by_cases hj : j = k
        · subst hj
          rw [if_neg hp, if_pos rfl, if_pos rfl]
        · rw [if_neg hj, if_neg hj]
  · rename_i hk
    rw [lookB_append, lookB_cons]
    by_cases hj : j = k
    · subst hj
      rw [lookB_none hk, if_pos rfl, if_pos rfl]; rfl
    · rw [if_neg (fun e => hj e.symm), if_neg hj]
      show (lookB l j).or none = _
      rw [Option.or_none]
theorem updB_keys (l : List (κ × β)) (k : κ) (v : β) : (updB l k v).map (·.1) = if k ∈ l.map (·.1) then l.map (·.1) else l.map (·.1) ++ [k] := by
  unfold updB
  split
  · rename_i hk
    apply List.ext_getElem?
    intro i
    rw [List.getElem?_map, List.getElem?_modify, List.getElem?_map]
    split
    · rename_i e
      rcases h : l[i]? with _ | p
      · rfl
      · show some k = some p.1
        have h1 : (l.map (·.1))[i]? = some p.1 := by rw [List.getElem?_map, h]; rfl
        have hlt := List.idxOf_lt_length_of_mem hk
        have h2 : (l.map (·.1))[(l.map (·.1)).idxOf k]? = some k := by rw [List.getElem?_eq_getElem hlt, List.getElem_idxOf hlt]
        rw [← e, h2] at h1
        exact h1
    · rcases l[i]? with _ | p <;> rfl
  · rw [List.map_append]; rfl
theorem updB_nodup {l : List (κ × β)} (h : (l.map (·.1)).Nodup) (k : κ) (v : β) : ((updB l k v).map (·.1)).Nodup := by
  rw [updB_keys]
  split
  · exact h
  · rename_i hk
    rw [List.nodup_append]
    exact ⟨h, by simp, fun a ha b hb e => by
      rw [List.mem_singleton] at hb
      subst hb
      subst e
      exact hk ha⟩
theorem lookB_get {l : List (κ × β)} (h : (l.map (·.1)).Nodup) {i : Nat} {p : κ × β} (hp : l[i]? = some p) : lookB l p.1 = some p.2 := by
  induction l generalizing i with
  | nil => simp at hp
  | cons q l ih =>
    rw [List.map_cons, List.nodup_cons] at h
    rw [lookB_cons]
    cases i with
    | zero =>
      simp at hp
      subst hp
      rw [if_pos rfl]
    | succ i =>
      have hp' : l[i]? = some p := by simpa using hp
      have hm : p.1 ∈ l.map (·.1) := List.mem_map_of_mem (List.mem_of_getElem? hp')
      rw [if_neg (fun e : q.1 = p.1 => h.1 (by rw [e]; exact hm))]
      exact ih h.2 hp'
end

section
variable {P : Program} {K : TypeId} {κ : Type} [DecidableEq κ] {enc : κ → Value}
theorem lookL_eq (l : List (κ × Value)) (k : κ) : lookL l k = lookB l k := rfl
theorem run_lookup_b (HK : KeyT P K enc) {T E : TypeId} (hT : P.underlying T = some (.map K E)) {z : Value} {w : World} (hz : (zeroValue E).run P w = .ok z w) {mb : Nat} {l : List (κ × Value)} (h : MapIs enc w mb l) (k : κ) (ok : Bool) :
    (Instr.lookup T (.map (some mb)) (enc k) ok).run P w = .ok (if ok then .tuple #[(lookB l k).getD z, .bool (lookB l k).isSome] else (lookB l k).getD z) w := run_lookup_is HK hT hz h k ok
theorem run_update_b (HK : KeyT P K enc) {T E : TypeId} (hT : P.underlying T = some (.map K E)) {w : World} {mb : Nat} {l : List (κ × Value)} (h : MapIs enc w mb l) (k : κ) (v : Value) :
    ∃ w', (Instr.mapUpdate T (.map (some mb)) (enc k) v).run P w = .ok () w' ∧ MapIs enc w' mb (updB l k v) ∧ w.grownBy w' (some mb) ∧ w'.heap.size = w.heap.size := by
  by_cases hk : k ∈ l.map (·.1)
  · obtain ⟨es, clock, h1, h2, h3⟩ := h
    have hf := HK.find w k es.toList (l.map (·.1)) (MapIs.keys (w := w) h2)
    have hg : (getObj mb).run P w = .ok (.map es clock) w := by simp [getObj, Sem.run, h1]
    have hl := lt_of_block h1
    have hkeys := MapIs.keys (w := w) h2
    have hix := List.idxOf_lt_length_of_mem hk
    have hat : es[(l.map (·.1)).idxOf k]?.map (·.key) = some (enc k) := by
      have e1 : (es.toList.map (·.key))[(l.map (·.1)).idxOf k]? = ((l.map (·.1)).map enc)[(l.map (·.1)).idxOf k]? := by rw [hkeys]
      rw [List.getElem?_map, List.getElem?_map, List.getElem?_eq_getElem hix, List.getElem_idxOf hix] at e1
      rw [← Array.getElem?_toList]
      simpa using e1
    have hkeep : (Instr.keyThatStays (((es[(l.map (·.1)).idxOf k]?).map (·.key)).getD (enc k)) (enc k)).run P w = .ok (enc k) w := by
      rw [hat]
      simp [Instr.keyThatStays, HK.same]
    refine ⟨{ w with heap := w.heap.setIfInBounds mb (.map (es.modify ((l.map (·.1)).idxOf k) fun e => { e with key := enc k, val := v }) clock) }, ?_, ⟨_, _, by simp [hl]; exact ⟨rfl, rfl⟩, ?_, ?_⟩, ⟨rfl, rfl, rfl, by simp, fun i _ hi => ?_⟩, by simp⟩
    · simp only [Instr.mapUpdate, Sem.run_bind, run_underlying hT, Result.andThen_ok, hg, HK.check, hf, hk, if_true, hkeep]
      simp [setObj, Sem.run, h1]
    · unfold updB
      rw [if_pos hk, Array.toList_modify]
      apply List.ext_getElem?
      intro i
      have e2 : (es.toList.map fun e => (e.key, e.val))[i]? = (l.map fun p => (enc p.1, p.2))[i]? := by rw [h2]
      rw [List.getElem?_map, List.getElem?_map] at e2
      rw [List.getElem?_map, List.getElem?_map, List.getElem?_modify, List.getElem?_modify]
      by_cases e : (l.map (·.1)).idxOf k = i
      · simp only [e, if_true]
        rcases hh : es.toList[i]? with _ | x <;> rcases hh2 : l[i]? with _ | p
        · rfl
        · rw [hh, hh2] at e2; cases e2
        · rw [hh, hh2] at e2; cases e2
        · rfl
      · simp only [e, if_false]
        simpa using e2
    · rw [Array.toList_modify]
      rw [← h3]
      apply List.ext_getElem?
      intro i
      rw [List.getElem?_map, List.getElem?_map, List.getElem?_modify]
      by_cases e : (l.map (·.1)).idxOf k = i
      · simp only [e, if_true]
        rcases es.toList[i]? with _ | x <;> rfl
      · simp only [e, if_false]
        rcases es.toList[i]? with _ | x <;> rfl
    · have : mb ≠ i := fun e => hi (by rw [e])
      simp [this]
  · have := run_update_new HK hT h k v hk
    unfold updB
    rw [if_neg hk]
    exact this

/-- The walk over the entries of the map: left i: entry number i is still to come. -/
def RngIs (enc : κ → Value) (w : World) (mb r : Nat) (l : List (κ × Value)) (left : Nat → Bool) : Prop :=
  ∃ es clock seen c0, w.heap[mb]? = some (.map es clock) ∧ es.toList.map (fun e => (e.key, e.val)) = l.map (fun p => (enc p.1, p.2)) ∧ es.toList.map (·.born) = List.range clock ∧
    w.heap[r]? = some (.mapIter (some mb) clock seen c0) ∧ clock ≤ c0 ∧ ∀ i, i < l.length → left i = !seen.contains i
theorem RngIs.map {w : World} {mb r : Nat} {l : List (κ × Value)} {left : Nat → Bool} (h : RngIs enc w mb r l left) : MapIs enc w mb l := by
  obtain ⟨es, clock, seen, c0, h1, h2, h3, _⟩ := h
  exact ⟨es, clock, h1, h2, h3⟩
theorem RngIs.lt {w : World} {mb r : Nat} {l : List (κ × Value)} {left : Nat → Bool} (h : RngIs enc w mb r l left) : r < w.heap.size := by
  obtain ⟨es, clock, seen, c0, h1, h2, h3, h4, _⟩ := h
  exact lt_of_block h4
theorem RngIs.ne {w : World} {mb r : Nat} {l : List (κ × Value)} {left : Nat → Bool} (h : RngIs enc w mb r l left) : r ≠ mb := by
  obtain ⟨es, clock, seen, c0, h1, h2, h3, h4, _⟩ := h
  intro e
  rw [e, h1] at h4; cases h4
theorem RngIs.of_block {w w' : World} {mb r : Nat} {l : List (κ × Value)} {left : Nat → Bool} (h : RngIs enc w mb r l left) (h1 : w'.heap[mb]? = w.heap[mb]?) (h2 : w'.heap[r]? = w.heap[r]?) : RngIs enc w' mb r l left := by
  obtain ⟨es, clock, seen, c0, a1, a2, a3, a4, a5⟩ := h
  exact ⟨es, clock, seen, c0, h1.trans a1, a2, a3, h2.trans a4, a5⟩
theorem map_len {es : Array MapEntry} {l : List (κ × Value)} (h : es.toList.map (fun e => (e.key, e.val)) = l.map (fun p => (enc p.1, p.2))) : es.toList.length = l.length := by
  have := congrArg List.length h
  simpa using this
theorem run_range_b {T E : TypeId} (hT : P.underlying T = some (.map K E)) {w : World} {mb : Nat} {l : List (κ × Value)} (h : MapIs enc w mb l) :
    ∃ w', (Instr.range T (.map (some mb))).run P w = .ok (.pointer (some ⟨w.heap.size, 0, none⟩)) w' ∧ RngIs enc w' mb w.heap.size l (fun _ => true) ∧ Below w.heap.size w w' ∧ w'.heap.size = w.heap.size + 1 := by
  have hlt := h.lt
  obtain ⟨es, clock, h1, h2, h3⟩ := h
  refine ⟨_, run_range_map w T K E mb es clock hT h1, ⟨es, clock, #[], clock, (Below.heap_alloc w _ mb hlt).trans h1, h2, h3, heap_alloc_new w _, Nat.le_refl _, fun i _ => by simp⟩, (Below.refl _ _).alloc (Nat.le_refl _) _, by simp⟩
theorem run_next_b {w : World} {mb r : Nat} {l : List (κ × Value)} {left : Nat → Bool} (h : RngIs enc w mb r l left) (ty : TypeId) :
    ((∀ i, i < l.length → left i = false) ∧ (Instr.next (.pointer (some ⟨r, 0, none⟩)) false ty).run P w = .ok (.tuple #[.bool false]) w) ∨
    ∃ i p w', i < l.length ∧ left i = true ∧ l[i]? = some p ∧ (Instr.next (.pointer (some ⟨r, 0, none⟩)) false ty).run P w = .ok (.tuple #[.bool true, enc p.1, p.2]) w' ∧ RngIs enc w' mb r l (fun j => left j && !decide (j = i)) ∧
      w.grownBy w' (some r) ∧ w'.heap.size = w.heap.size ∧ (Instr.entry (.pointer (some ⟨r, 0, none⟩))).run P w' = .ok (.tuple #[enc p.1, p.2]) w' := by
  have hne := h.ne
  obtain ⟨es, clock, seen, c0, hb, h2, h3, hr, hsc, hl⟩ := h
  have hlen := map_len h2
  have hclk : clock = l.length := by
    have := congrArg List.length h3
    rw [List.length_map, List.length_range, hlen] at this
    exact this.symm
  have hborn : ∀ (i : Nat) (x : MapEntry), es.toList[i]? = some x → x.born = i := fun i x hx => by
    have e1 : (es.toList.map (·.born))[i]? = (List.range clock)[i]? := by rw [h3]
    rw [List.getElem?_map, hx] at e1
    have hi : i < clock := by
      have := (List.getElem?_eq_some_iff.1 hx).1
      omega
    rw [List.getElem?_range hi] at e1
    simpa using e1
  have hold : ∀ x ∈ es.toList, x.born < clock := fun x hx => by
    obtain ⟨i, hi⟩ := List.getElem?_of_mem hx
    rw [hborn i x hi]
    have := (List.getElem?_eq_some_iff.1 hi).1
    omega
  rcases run_next_at (P := P) w ty r mb clock c0 seen es clock hr hb hold hsc with ⟨h0, hrun⟩ | ⟨e, he, w1, hal, hrun⟩
  · refine .inl ⟨fun i hi => ?_, hrun⟩
    rw [hl i hi]
    have hx : es.toList[i]? = some es.toList[i] := List.getElem?_eq_getElem (by omega)
    have := all_seen es seen h0 _ (List.getElem_mem (l := es.toList) (n := i) (by omega))
    rw [hborn i _ hx] at this
    rw [this]; rfl
  · obtain ⟨hem, hes⟩ := mem_left he
    obtain ⟨i, hi⟩ := List.getElem?_of_mem hem
    have hil : i < l.length := by have := (List.getElem?_eq_some_iff.1 hi).1; omega
    have hbi := hborn i e hi
    have hp : l[i]? = some l[i] := List.getElem?_eq_getElem hil
    have hkv : (e.key, e.val) = (enc l[i].1, l[i].2) := by
      have e1 : (es.toList.map fun e => (e.key, e.val))[i]? = (l.map fun p => (enc p.1, p.2))[i]? := by rw [h2]
      rw [List.getElem?_map, List.getElem?_map, hi, hp] at e1
      simpa using e1
    injection hkv with hk1 hk2
    have hr1 : w1.heap[r]? = some (.mapIter (some mb) clock seen c0) := by rcases hal with rfl | rfl <;> exact hr
    have hb1 : w1.heap[mb]? = some (.map es clock) := by rcases hal with rfl | rfl <;> exact hb
    have hset := Go.MapKept.heap_set (o' := .mapIter (some mb) clock (seen.push e.born) clock) hr1
    have hb' := (hset.2 mb (fun e1 => hne e1.symm)).trans hb1
    refine .inr ⟨i, l[i], _, hil, by rw [hl i hil, ← hbi, hes]; rfl, hp, by rw [← hk1, ← hk2]; exact hrun, ⟨es, clock, seen.push e.born, clock, hb', h2, h3, hset.1, Nat.le_refl _, fun j hj => ?_⟩, ?_, ?_, ?_⟩
    · show (left j && !decide (j = i)) = _
      rw [hl j hj, contains_push, hbi]
      cases seen.contains j
      · by_cases hji : j = i
        · subst hji; simp
        · simp [hji]
      · simp
    · rcases hal with rfl | rfl <;> exact ⟨rfl, rfl, rfl, by simp [ChangeMaps.setBlock], fun k _ hk => hset.2 k (fun e1 => hk (by rw [e1]))⟩
    · rcases hal with rfl | rfl <;> simp [ChangeMaps.setBlock]
    · rw [← hk1, ← hk2]
      refine run_entry_at _ r mb clock seen es clock e hset.1 hb' hem ?_
      rw [h3]
      exact List.nodup_range
/-- How many entries are still to come. -/
def cntLeft (n : Nat) (left : Nat → Bool) : Nat := ((List.range n).filter left).length
theorem cntLeft_less {n i : Nat} {left : Nat → Bool} (hi : i < n) (hl : left i = true) : cntLeft n (fun j => left j && !decide (j = i)) < cntLeft n left := by
  unfold cntLeft
  refine filter_less _ _ _ (fun x _ hx => ?_) ⟨i, List.mem_range.2 hi, hl, by simp⟩
  rw [Bool.and_eq_true] at hx
  exact hx.1
end
end Go.Proofs.Ythhknonaebnooaa
set_option linter.unusedVariables false
set_option linter.unusedSimpArgs false
namespace Go.Proofs.Ythhknonaebnooaa
open Go.RowKit

def encZ (z : Int) : Value := .int .i64 z
theorem intz_check (e : Bool) (w : World) (q : Int) : (Instr.checkKey e 10000 3 (encZ q)).run Try.prog w = .ok () w := by kernel_rfl
theorem intz_key : KeyT Try.prog 3 encZ :=
  .of_now Try.underlying3 intz_check (fun a b => by
    unfold encZ
    simp [Instr.sameNow]
    rw [Bool.eq_iff_iff, beq_iff_eq, decide_eq_true_eq]) (fun k => by simp [encZ, Instr.sameBits])
def setV (ks : List Int) : List (Int × Value) := ks.map fun k => (k, .bool true)
theorem setV_keys (ks : List Int) : (setV ks).map (·.1) = ks := by unfold setV; rw [List.map_map]; show ks.map id = ks; simp
def addK (ks : List Int) (k : Int) : List Int := if k ∈ ks then ks else ks ++ [k]
theorem mem_addK {ks : List Int} {k j : Int} : j ∈ addK ks k ↔ j ∈ ks ∨ j = k := by
  unfold addK
  split
  · exact ⟨.inl, fun h => h.elim id (fun e => e ▸ by assumption)⟩
  · simp
theorem nodup_addK {ks : List Int} (h : ks.Nodup) (k : Int) : (addK ks k).Nodup := by
  unfold addK
  split
  · exact h
  · rename_i hk
    rw [List.nodup_append]
    exact ⟨h, by simp, fun a ha b hb e => by
      rw [List.mem_singleton] at hb
      subst hb
      subst e
      exact hk ha⟩
theorem setV_upd (ks : List Int) (k : Int) : updB (setV ks) k (.bool true) = setV (addK ks k) := by
  unfold updB addK
  rw [setV_keys]
  split
  · rename_i hk
    apply List.ext_getElem?
    intro i
    rw [List.getElem?_modify]
    split
    · rename_i e
      have hlt := List.idxOf_lt_length_of_mem hk
      have h1 : ks[i]? = some k := by rw [← e, List.getElem?_eq_getElem hlt, List.getElem_idxOf hlt]
      unfold setV
      rw [List.getElem?_map, h1]; rfl
    · rcases (setV ks)[i]? with _ | x <;> rfl
  · unfold setV; rw [List.map_append]; rfl
theorem setV_look (ks : List Int) (k : Int) : lookB (setV ks) k = if k ∈ ks then some (.bool true) else none := by
  induction ks with
  | nil => rfl
  | cons a ks ih =>
    show lookB ((a, Value.bool true) :: setV ks) k = _
    rw [lookB_cons, ih]
    by_cases h : a = k
    · subst h; simp
    · rw [if_neg h]
      simp [show ¬ k = a from fun e => h e.symm]

/-- Block mb is the set of the numbers ks, in the order in which they came. -/
structure MSet (w : World) (mb : Nat) (ks : List Int) : Prop where
  map : MapIs encZ w mb (setV ks)
  nd : ks.Nodup
section
variable {w w' : World} {mb : Nat} {ks : List Int}
theorem MSet.lt (h : MSet w mb ks) : mb < w.heap.size := h.map.lt
theorem MSet.of_block (h : MSet w mb ks) (hb : w'.heap[mb]? = w.heap[mb]?) : MSet w' mb ks := ⟨h.map.of_block hb, h.nd⟩
theorem MSet.below {B : Nat} (h : MSet w mb ks) (hb : Below B w w') (hl : mb < B) : MSet w' mb ks := h.of_block (hb.block mb hl)
theorem MSet.new (w : World) : MSet (w.alloc (.map #[] 0)) w.heap.size [] := ⟨MapIs.new w, List.nodup_nil⟩
theorem MSet.look (h : MSet w mb ks) (k : Int) : (Instr.lookup 65 (.map (some mb)) (.int .i64 k) false).run Try.prog w = .ok (.bool (decide (k ∈ ks))) w := by
  have := run_lookup_b intz_key (T := 65) (E := 4) (P := Try.prog) (z := .bool false) (by kernel_rfl) (by kernel_rfl) h.map k false
  rw [setV_look] at this
  show (Instr.lookup 65 (.map (some mb)) (encZ k) false).run Try.prog w = _
  rw [this]
  by_cases hk : k ∈ ks <;> simp [hk]
theorem MSet.put (h : MSet w mb ks) (k : Int) : ∃ w', (Instr.mapUpdate 65 (.map (some mb)) (.int .i64 k) (.bool true)).run Try.prog w = .ok () w' ∧ MSet w' mb (addK ks k) ∧ w.grownBy w' (some mb) ∧ w'.heap.size = w.heap.size := by
  obtain ⟨w', h1, h2, h3, h4⟩ := run_update_b intz_key (T := 65) (E := 4) (P := Try.prog) (by kernel_rfl) h.map k (.bool true)
  rw [setV_upd] at h2
  exact ⟨w', h1, ⟨h2, nodup_addK h.nd k⟩, h3, h4⟩
end
theorem perm_of {ks S : List Int} (h : ks.Nodup) (hs : S.Nodup) (hm : ∀ k, k ∈ ks ↔ k ∈ S) : ks.Perm S := by
  rw [List.perm_ext_iff_of_nodup h hs]; exact hm
/-- Block mb is the set of the numbers of S. -/
def SetIs (w : World) (mb : Nat) (S : List Int) : Prop := ∃ ks, MSet w mb ks ∧ ks.Perm S
section
variable {w w' : World} {mb : Nat} {S : List Int}
theorem SetIs.lt (h : SetIs w mb S) : mb < w.heap.size := let ⟨_, h, _⟩ := h; h.lt
theorem SetIs.of_block (h : SetIs w mb S) (hb : w'.heap[mb]? = w.heap[mb]?) : SetIs w' mb S := let ⟨ks, h1, h2⟩ := h; ⟨ks, h1.of_block hb, h2⟩
theorem SetIs.below {B : Nat} (h : SetIs w mb S) (hb : Below B w w') (hl : mb < B) : SetIs w' mb S := h.of_block (hb.block mb hl)
theorem SetIs.new (w : World) : SetIs (w.alloc (.map #[] 0)) w.heap.size [] := ⟨[], MSet.new w, List.Perm.refl _⟩
theorem SetIs.look (h : SetIs w mb S) (k : Int) : (Instr.lookup 65 (.map (some mb)) (.int .i64 k) false).run Try.prog w = .ok (.bool (decide (k ∈ S))) w := by
  obtain ⟨ks, h1, h2⟩ := h
  rw [h1.look k]
  simp [h2.mem_iff]
end
end Go.Proofs.Ythhknonaebnooaa
set_option linter.unusedVariables false
set_option linter.unusedSimpArgs false
namespace Go.Proofs.Ythhknonaebnooaa
open Go.RowKit
attribute [local go_sem] cell_alloc_old

/-- Old blocks outside of V lie as they lay. -/
structure Chg (V : Dom) (w w' : World) : Prop where
  os : w'.os = w.os
  tape : w'.tape = w.tape
  output : w'.output = w.output
  size : w.heap.size ≤ w'.heap.size
  block : ∀ b, b < w.heap.size → ¬ V b → w'.heap[b]? = w.heap[b]?
section
variable {V U : Dom} {w w' w'' : World}
theorem Chg.refl (V : Dom) (w : World) : Chg V w w := ⟨rfl, rfl, rfl, Nat.le_refl _, fun _ _ _ => rfl⟩
theorem Chg.trans (h : Chg V w w') (k : Chg V w' w'') : Chg V w w'' :=
  ⟨k.os.trans h.os, k.tape.trans h.tape, k.output.trans h.output, Nat.le_trans h.size k.size, fun b hb hv => (k.block b (Nat.lt_of_lt_of_le hb h.size) hv).trans (h.block b hb hv)⟩
theorem Chg.mono (h : Chg V w w') (hu : ∀ b, b < w.heap.size → V b → U b) : Chg U w w' := ⟨h.os, h.tape, h.output, h.size, fun b hb hv => h.block b hb fun x => hv (hu b hb x)⟩
theorem Chg.trans' (h : Chg V w w') (k : Chg U w' w'') (hu : ∀ b, b < w.heap.size → U b → V b) : Chg V w w'' :=
  ⟨k.os.trans h.os, k.tape.trans h.tape, k.output.trans h.output, Nat.le_trans h.size k.size, fun b hb hv => (k.block b (Nat.lt_of_lt_of_le hb h.size) (fun x => hv (hu b hb x))).trans (h.block b hb hv)⟩
theorem Chg.of_below {B : Nat} (h : Below B w w') : Chg (fun b => B ≤ b) w w' := ⟨h.os, h.tape, h.output, h.size, fun b _ hv => h.block b (by omega)⟩
theorem Chg.of_new (h : Below w.heap.size w w') : Chg V w w' := ⟨h.os, h.tape, h.output, h.size, fun b hb _ => h.block b hb⟩
theorem Chg.below {B : Nat} (h : Chg V w w') (hV : ∀ b, b < B → ¬ V b) (hB : B ≤ w.heap.size) : Below B w w' := ⟨h.os, h.tape, h.output, h.size, fun b hb => h.block b (Nat.lt_of_lt_of_le hb hB) (hV b hb)⟩
theorem Chg.alloc (h : Chg V w w') (o : Obj) : Chg V w (w'.alloc o) := h.trans (Chg.of_new ((Below.refl _ _).alloc (Nat.le_refl _) o))
theorem Chg.drew (h : Chg V w w') : Chg V w w'.drew := ⟨h.os, h.tape, h.output, h.size, h.block⟩
theorem Chg.drewN (h : Chg V w w') (n : Nat) : Chg V w (w'.drewN n) := ⟨h.os, h.tape, h.output, h.size, h.block⟩
theorem Chg.drawn (h : Chg V w w') (k : Drawn w' w'') : Chg V w w'' := h.trans (Chg.of_new (k.below _))
theorem Chg.set (h : Chg V w w') (p : Addr) (u : Value) (hp : p.block < w.heap.size → V p.block) : Chg V w (w'.setCell p u) :=
  ⟨h.os, h.tape, h.output, by simpa using h.size, fun b hb hv => by
    have hne : b ≠ p.block := fun e => hv (e ▸ hp (e ▸ hb))
    rw [Below.heap_setCell _ _ _ _ hne]; exact h.block b hb hv⟩
theorem Chg.grown {row : Option Nat} (h : Chg V w w') (hg : w'.grownBy w'' row) (hr : ∀ k, row = some k → k < w.heap.size → V k) : Chg V w w'' :=
  h.trans' (U := fun b => row = some b) ⟨hg.os, hg.tape, hg.output, hg.size, fun b hb hv => hg.block b hb (fun e => hv e.symm)⟩ (fun b hb e => hr b e hb)
theorem Chg.keeps {D : Dom} (h : Chg V w w') (hd : ∀ b, b < w.heap.size → D b → ¬ V b) : Keeps D w w' := ⟨h.size, fun b hb hl => h.block b hl (hd b hl hb)⟩
theorem Chg.box {b : Nat} {o : Obj} (h : Chg V w w') (hb : w.heap[b]? = some o) (hv : ¬ V b) : w'.heap[b]? = some o := (h.block b (lt_of_block hb) hv).trans hb
end

/-- A function value without captured variables that decides on moves. -/
structure PredM (fn : Nat) (p : Mv → Bool) : Prop where
  enter : ∀ (args : Array Value) (W : World), (callFunc fn args).run Try.prog W = .ok (.enter fn args) W
  call : ∀ (m : Mv) (W : World), Calls Try.prog fn #[.agg #[.int .i64 m.dst, .bool m.good]] W fun e W' => e = .returned (.bool (p m)) ∧ Below W.heap.size W W'
theorem pred_all : PredM 59 (fun _ => true) := by
  refine ⟨enters_of Try.func59 (by kernel_rfl) rfl, fun m W => ?_⟩
  go_enter Try.func59, Try.ntmps59
  go_wp2
  go_ret
  exact ⟨rfl, by go_grown⟩
theorem pred_good : PredM 60 (fun m => m.good) := by
  refine ⟨enters_of Try.func60 (by kernel_rfl) rfl, fun m W => ?_⟩
  go_enter Try.func60, Try.ntmps60
  go_wp2
  go_ret
  exact ⟨rfl, by go_grown⟩
theorem move_info : (Try.prog.info? 54).map (fun i => (i.zero, i.size, i.bytes)) = some (some (.agg #[.int .i64 0, .bool false]), 2, 16) := by kernel_rfl
theorem filtM_snoc (P : Mv → Bool) (l : List Mv) {k : Nat} (hk : k < l.length) : (l.take (k + 1)).filter P = (l.take k).filter P ++ (if P (l.getD k default) then [l.getD k default] else []) := by
  have hx : l[k] = l.getD k default := by simp [List.getD, hk]
  rw [List.take_succ_eq_append_getElem hk, hx, List.filter_append]
  generalize l.getD k default = y
  cases hh : P y <;> simp [hh]
theorem Rd.cell2 {w : World} {k : Nat} {u0 u1 : Value} (h0 : w.cell? ⟨k, 0, none⟩ = some u0) (h1 : w.cell? ⟨k, 1, none⟩ = some u1) : Rd w (fun _ => True) 2 (some ⟨k, 0, none⟩) 1 1 [u0, u1] := by
  refine ⟨⟨by simp, by omega, by omega, by omega⟩, fun _ => ⟨k, 0, rfl, trivial, World.block_lt_of_cell? w ⟨k, 0, none⟩ h0, fun j v hv => ?_⟩⟩
  match j, hv with
  | 0, hv => simp at hv; subst hv; exact h0
  | 1, hv => simp at hv; subst hv; exact h1
  | j + 2, hv => simp at hv
theorem mcells_len (l : List Mv) : (l.flatMap vcells).length = l.length * 2 := by
  induction l with
  | nil => rfl
  | cons x l ih => rw [List.flatMap_cons, List.length_append, ih, List.length_cons]; simp [vcells]; omega
theorem mcells_one (l : List Mv) : ∀ u ∈ l.flatMap vcells, u.oneCell' = true := by
  intro u hu
  obtain ⟨x, _, hx⟩ := List.mem_flatMap.1 hu
  simp only [vcells, List.mem_cons, List.not_mem_nil, or_false] at hx
  rcases hx with rfl | rfl <;> rfl

set_option maxRecDepth 100000 in
set_option maxHeartbeats 2000000 in
theorem chosenm_any {D : Dom} (fn : Nat) (p : Mv → Bool) (hp : PredM fn p) (A : Option Addr) (c : Nat) (l : List Mv) (w : World) (h : RdV w D A c l) (hll : l.length ≤ 10000) :
    Calls Try.prog 80 #[.slice A l.length c, .func (.func fn) #[] #[]] w fun e w' => ∃ A' c', e = .returned (.slice A' (l.filter p).length c') ∧ Below w.heap.size w w' ∧ RdV w' (fun k => w.heap.size ≤ k) A' c' (l.filter p) := by
  obtain ⟨i0, hti, hz0, hz1, hz2⟩ := info_parts move_info
  have hm := h.len.1
  have HR := hid (show RdV w (· < w.heap.size) A c l from h.mono fun _ _ hl => hl)
  have hent := hp.enter
  have HP := hid hp
  clear h hp
  go_enter Try.func80, Try.ntmps80
  go_wp2_with fail
  go_loopw [5, 10] (fun s t wr => ∃ (k n : Nat) (A' : Option Addr) (c' : Nat), k ≤ l.length ∧ n = ((l.take k).filter p).length ∧ t = .int .i64 (k : Int) ∧ s = .slice A' n c' ∧ wr.ownsRow w.heap.size 54 2 (.slice A' n c') n (((l.take k).filter p).flatMap vcells) ∧ Below w.heap.size w wr) (fun _ t _ => l.length - (intOf t).toNat)
  case atStart => exact ⟨0, 0, none, 0, Nat.zero_le _, rfl, rfl, rfl, ⟨rfl, .inl ⟨rfl, rfl⟩⟩, Below.refl _ _⟩
  case round =>
    obtain ⟨k, n, A', c', hk, hn, rfl, rfl, hown, hbr⟩ := hrel
    have HOX := hid hown
    have HBX := hid hbr
    have hnb : n ≤ k := by rw [hn]; exact Nat.le_trans (List.length_filter_le _ _) (by rw [List.length_take]; omega)
    have HNN := hid hn
    have hszr := hbr.size
    have HRW := hid (HR.out.keep (Keeps.of_below hbr fun _ h => h))
    clear hown hbr hn
    by_cases hlt : k < l.length
    · obtain ⟨b, o, x, rfl, _, hbl, HX, h0, h1⟩ := HRW.out.get hlt
      have hki : (k : Int) < l.length := by omega
      have HS := hid (filtM_snoc p l hlt)
      rw [HX.out] at HS
      obtain ⟨W2, hW2⟩ : ∃ W2, W2 = wr := ⟨_, rfl⟩
      rw [← hW2] at HOX HBX HRW hszr hbl h0 h1 ⊢
      clear hW2
      go_upto_region 5 with (fail)
      refine wp_gen fun W hW => ?_
      have hb3 : Below W2.heap.size W2 W := by rw [hW]; go_grown
      have e0 : W.cell? ⟨W2.heap.size, 0, none⟩ = some (.int .i64 x.dst) := by rw [hW]; exact cell_new W2 _ _ _ 0 _ rfl rfl
      have e1 : W.cell? ⟨W2.heap.size, 1, none⟩ = some (.bool x.good) := by rw [hW]; exact cell_new W2 _ _ _ 1 _ rfl rfl
      have hs3 : W2.heap.size < W.heap.size := by rw [hW]; simp only [World.size_alloc]; omega
      have HB3 := hid hb3
      clear hW hb3
      obtain ⟨pv, hpv⟩ : ∃ pv, p x = pv := ⟨_, rfl⟩
      have HPC : Hid (∀ W, Calls Try.prog fn #[.agg #[.int .i64 x.dst, .bool x.good]] W fun e W' => e = .returned (.bool pv) ∧ Below W.heap.size W W') := hid (by rw [← hpv]; exact HP.out.call x)
      have HPV := hid hpv
      rw [hpv] at HS
      clear hpv
      cases pv
      · go_wp2_with (refine (HPC.out _).mono ?_; rintro e w1 ⟨rfl, hb4⟩; have HB4 := hid hb4; have hs4 := hb4.size; have e0 := (hb4.cell (p := ⟨W2.heap.size, 0, none⟩) hs3).trans e0; have e1 := (hb4.cell (p := ⟨W2.heap.size, 1, none⟩) hs3).trans e1; clear hb4)
        go_roundw
        case rel =>
          refine ⟨k + 1, n, A', c', by omega, ?_, by go_num, rfl, ?_, HBX.out.trans ((HB3.out.trans (HB4.out.mono (Nat.le_of_lt hs3))).mono hszr)⟩
          · rw [HS.out]; simpa using HNN.out
          · rw [HS.out]
            have := own_below HOX.out (HB3.out.trans (HB4.out.mono (Nat.le_of_lt hs3)))
            simpa using this
        case measure => simp [intOf]; omega
      · go_wp2_with (first | (refine (HPC.out _).mono ?_; rintro e w1 ⟨rfl, hb4⟩; have HB4 := hid hb4; have hs4 := hb4.size; have e0 := (hb4.cell (p := ⟨W2.heap.size, 0, none⟩) hs3).trans e0; have e1 := (hb4.cell (p := ⟨W2.heap.size, 1, none⟩) hs3).trans e1; have HO4 := hid (own_below HOX.out (HB3.out.trans (HB4.out.mono (Nat.le_of_lt hs3)))); have HBW := hid (HBX.out.trans ((HB3.out.trans (HB4.out.mono (Nat.le_of_lt hs3))).mono hszr)); clear hb4) | (at_builtin; go_must (refine wpList_append_rd _ rfl (.tmp 17) (.tmp 19) 52 rfl w.heap.size 54 i0 _ 2 16 Try.underlying52 hti hz0 hz1 hz2 rfl (by omega) (.slice A' n c') n _ rfl (HO4.out.alloc _) _ (some ⟨w1.heap.size, 0, none⟩) 1 1 _ rfl (Rd.cell2 (cell_new w1 _ _ _ _ _ rfl rfl) (cell_new w1 _ _ _ _ _ rfl rfl)) (by simp [Value.oneCell']) (by omega) (maxLen_le (by omega)) (by simp; omega) ?_); intro A5 c5 w5 hown5 hg5 hat5))
        have hb5 := Below.grown (B := w.heap.size) (HBW.out.trans ((show Below w1.heap.size w1 _ from by go_grown).mono HBW.out.size)) hg5 (by simp; omega) (fun k hk => (HO4.out.lt k hk).1)
        have HO5 := hid hown5
        have HB5 := hid hb5
        clear hown5 hg5 hat5 hb5
        go_roundw
        case rel =>
          refine ⟨k + 1, n + 1, A5, c5, by omega, ?_, by go_num, rfl, ?_, HB5.out⟩
          · rw [HS.out, List.length_append, ← HNN.out]; rfl
          · rw [HS.out, List.flatMap_append]; exact HO5.out
        case measure => simp [intOf]; omega
    · have hke : k = l.length := by omega
      have HKE := hid hke
      clear hke
      go_wp2_with fail
      go_ret
      have e2 : l.take k = l := by rw [HKE.out]; simp
      have ho := HOX.out
      have hn := HNN.out
      rw [e2] at ho hn
      refine ⟨A', c', ret_sl hn, HBX.out, ?_⟩
      unfold RdV
      rw [← hn]
      exact Rd.own ho (by omega) (fun _ h => h)
end Go.Proofs.Ythhknonaebnooaa
set_option linter.unusedVariables false
set_option linter.unusedSimpArgs false
namespace Go.Proofs.Ythhknonaebnooaa
open Go.RowKit
attribute [local go_sem] cell_alloc_old

theorem pred_well (well : Bool) : ∃ fn, fn = (if well then 60 else 59) ∧ PredM fn (fun m => m.good || !well) := by
  refine ⟨_, rfl, ?_⟩
  cases well
  · have e : (fun m : Mv => m.good || !false) = fun _ => true := by funext m; simp
    rw [e]; exact pred_all
  · have e : (fun m : Mv => m.good || !true) = fun m => m.good := by funext m; simp
    rw [e]; exact pred_good
/-- The automaton in its box, and the set in the block after it. -/
structure Rc (w wr : World) (cs : Array Value) (b : Bu) (ks : List Int) : Prop where
  below : Below w.heap.size w wr
  box : HasB wr w.heap.size cs b
  set : MSet wr (w.heap.size + 1) ks
section
variable {w wr wr' : World} {cs : Array Value} {b : Bu} {ks ks' : List Int}
theorem Rc.next (h : Rc w wr cs b ks) (hc : Chg (fun k => k = w.heap.size + 1) wr wr') (hd : RdBu w (· < w.heap.size) (.agg cs) b) (hs : MSet wr' (w.heap.size + 1) ks') : Rc w wr' cs b ks' := by
  have hb : Below w.heap.size w wr' := h.below.trans (hc.below (fun b hb hv => by omega) h.below.size)
  refine ⟨hb, ⟨?_, ?_⟩, hs⟩
  · exact hc.box h.box.blk (by omega)
  · have hsz := hb.size
    exact (hd.keep (Keeps.of_below hb fun _ h => h)).mono fun k hk _ => by have hk : k < w.heap.size := hk; omega
theorem Rc.after (h : Rc w wr cs b ks) (hb : Below wr.heap.size wr wr') (hd : RdBu w (· < w.heap.size) (.agg cs) b) : Rc w wr' cs b ks :=
  h.next (Chg.of_new hb) hd (h.set.below hb h.set.lt)
end
theorem hitM_filter (l : List Mv) (well : Bool) (s : Int) : hitM l well s = (l.filter fun m => m.good || !well).any fun m => decide (m.dst = s) := by
  unfold hitM
  induction l with
  | nil => rfl
  | cons m l ih =>
    rw [List.any_cons, List.filter_cons, ih]
    cases h : (m.good || !well)
    · simp
    · simp
theorem any_snoc (l : List Mv) (s : Int) {k : Nat} (hk : k < l.length) : ((l.take (k + 1)).any fun m => decide (m.dst = s)) = ((l.take k).any (fun m => decide (m.dst = s)) || decide ((l.getD k default).dst = s)) := by
  have hx : l[k] = l.getD k default := by simp [List.getD, hk]
  rw [List.take_succ_eq_append_getElem hk, hx]
  simp
theorem reach_nodup (b : Bu) (set : List Int) (a : Int) (well : Bool) : (reachZ b set a well).Nodup := by
  unfold reachZ
  refine List.Pairwise.filter _ ?_
  show List.Nodup _
  rw [List.Nodup, List.pairwise_map]
  exact List.nodup_range.imp fun h e => h (by omega)
theorem few_moves {b : Bu} (h : fewB b = true) (q a : Nat) (hq : q < b.next.length) (ha : a < (b.next.getD q []).length) : ((b.next.getD q []).getD a []).length ≤ 20 := by
  unfold fewB at h
  simp only [Bool.and_eq_true, decide_eq_true_eq] at h
  have h1 := allN_true.1 h.2 q hq
  simp only [Bool.and_eq_true] at h1
  simpa using allN_true.1 h1.2 a ha

theorem mem_reach {b : Bu} {set : List Int} {a : Int} {well : Bool} (hb : buchiB b = true) (hset : ∀ q, q ∈ set → 0 ≤ q ∧ q < (b.next.length : Int)) (a0 : 0 ≤ a) (a1 : a < b.letters) {z : Int} :
    z ∈ reachZ b set a well ↔ hitB b set a well z = true := by
  unfold reachZ
  rw [List.mem_filter]
  refine ⟨fun h => h.2, fun h => ⟨?_, h⟩⟩
  obtain ⟨q, hq, hm⟩ := List.any_eq_true.1 h
  obtain ⟨m, hm, hd⟩ := List.any_eq_true.1 hm
  rw [Bool.and_eq_true, decide_eq_true_eq] at hd
  have hs := hset q hq
  have hbn := buchi_next hb (q := q.toNat) (a := a.toNat) (by omega) (by omega)
  unfold mvs at hm
  obtain ⟨km, hkm, rfl⟩ := List.getElem_of_mem hm
  have h2 := hbn.2 km hkm
  have e2 : (((b.next.getD q.toNat []).getD a.toNat []).getD km default) = ((b.next.getD q.toNat []).getD a.toNat [])[km] := by
    rw [List.getD_eq_getElem?_getD, List.getElem?_eq_getElem hkm]; rfl
  rw [e2, hd.1] at h2
  exact List.mem_map.2 ⟨z.toNat, List.mem_range.2 (by omega), by omega⟩

set_option maxRecDepth 100000 in
set_option maxHeartbeats 4000000 in
theorem preached_any {D E : Dom} (v : Value) (b : Bu) (A : Option Addr) (c : Nat) (set : List Int) (a : Int) (well : Bool) (fn : Nat) (hfn : PredM fn (fun m => m.good || !well)) (w : World) (h : RdBu w D v b) (hs : RdI w E A c set) (hb : buchiB b = true) (hf : fewB b = true) (hset : ∀ k, k < set.length → 0 ≤ set.getD k 0 ∧ set.getD k 0 < (b.next.length : Int)) (a0 : 0 ≤ a) (a1 : a < b.letters) :
    Calls Try.prog 58 #[v, .slice A set.length c, .int .i64 a, .func (.func fn) #[] #[]] w fun e w' => e = .returned (.map (some (w.heap.size + 1))) ∧ Below w.heap.size w w' ∧ SetIs w' (w.heap.size + 1) (reachZ b set a well) := by
  have HV := hid h.old
  have HS := hid hs.old
  have hsl := hs.len.1
  have HBU := hid hb
  have HFEW := hid hf
  have HSE := hid hset
  have HFN := hid hfn
  obtain ⟨As, cs, An, cn, rfl, ho, hn⟩ := h
  obtain ⟨an, rfl⟩ : ∃ an : Nat, a = (an : Int) := ⟨a.toNat, by omega⟩
  have hmm := @run_makeMap Try.prog
  have HN0 := hid (show RdVVV w (· < w.heap.size) An cn b.next from monoVVV hn fun _ _ hl => hl)
  clear ho hn hs hb hset hf hfn
  go_enter Try.func58, Try.ntmps58
  go_upto_region 2 with (fail)
  refine wp_gen fun W hW => ?_
  have hM : Rc w W #[.int .i64 b.letters, .slice As b.start.length cs, .slice An b.next.length cn] b [] := by
    obtain ⟨w1, h1⟩ : ∃ w1, w1 = w.alloc (.cells #[.int .i64 b.letters, .slice As b.start.length cs, .slice An b.next.length cn] 25) := ⟨_, rfl⟩
    have s1 : w1.heap.size = w.heap.size + 1 := by rw [h1]; simp
    have m1 : HasB w1 w.heap.size #[.int .i64 b.letters, .slice As b.start.length cs, .slice An b.next.length cn] b := by rw [h1]; exact HasB.new HV.out
    have b1 : Below w.heap.size w w1 := by rw [h1]; go_grown
    rw [← h1] at hW
    have b2 : Below w1.heap.size w1 W := by rw [hW]; go_grown
    refine ⟨b1.trans (b2.mono b1.size), m1.below b2, ?_⟩
    rw [hW, ← s1]; exact MSet.new w1
  have HM := hid hM
  clear hW hM hmm
  go_wp2_with fail
  go_loopw [17] (fun t wr => ∃ (k : Nat) (ks : List Int), k ≤ set.length ∧ t = .int .i64 (k : Int) ∧ Rc w wr #[.int .i64 b.letters, .slice As b.start.length cs, .slice An b.next.length cn] b ks ∧ ∀ s : Int, s ∈ ks ↔ hitB b (set.take k) an well s = true) (fun t _ => set.length - (intOf t).toNat)
  case atStart => exact ⟨0, _, Nat.zero_le _, rfl, HM.out, fun s => by simp [hitB]⟩
  case round =>
    obtain ⟨k, ks, hk, rfl, hM, hhit⟩ := hrel
    have HM := hid hM
    have HH := hid hhit
    have hbw := hM.below
    obtain ⟨x0, x1, x2, xl⟩ := hM.box.cells
    have hsl2 := hM.set.lt
    have HSR := hid (HS.out.keep (Keeps.of_below hbw fun _ h => h))
    have HBWR := hid hbw
    clear hM hhit hbw
    by_cases hlt : k < set.length
    · obtain ⟨g, o, q, rfl, _, hgl, HX, hc⟩ := HSR.out.get hlt
      have hq := HSE.out k hlt
      rw [HX.out] at hq
      obtain ⟨qn, rfl⟩ : ∃ qn : Nat, q = (qn : Int) := ⟨q.toNat, by omega⟩
      have hqn : qn < b.next.length := by omega
      obtain ⟨g2, o2, A2, c2, row, hAn, _, hgl2, HR, hr, hc2⟩ := HN0.out.get hqn
      subst hAn
      have hbn := buchi_next HBU.out hqn a1
      rw [HR.out] at hbn
      have hrl := hr.len.1
      have han : an < row.length := by omega
      obtain ⟨g3, o3, A3, c3, l, hA2, _, hgl3, HL, hl, hc3⟩ := RdOf.get hr han
      subst hA2
      have hll : l.length ≤ 20 := by
        have := few_moves HFEW.out qn an hqn (by rw [HR.out]; exact han)
        rw [HR.out, HL.out] at this; exact this
      have hqi : (qn : Int) < b.next.length := by omega
      have hai : (an : Int) < row.length := by omega
      have hki : (k : Int) < set.length := by omega
      have HMV := hid (show mvs b (set.getD k 0) an = l by unfold mvs; rw [HX.out]; show (b.next.getD qn []).getD an [] = l; rw [HR.out, HL.out])
      have HLR := hid (hl.keep (Keeps.of_below HBWR.out fun _ h => h))
      have hc2 := (HBWR.out.cell (p := ⟨g2, o2 + qn, none⟩) hgl2).trans hc2
      have hc3 := (HBWR.out.cell (p := ⟨g3, o3 + an, none⟩) hgl3).trans hc3
      have hws := HBWR.out.size
      have HSN := hid (fun s : Int => hitB_snoc b set an well s hlt)
      clear hl hr hbn
      obtain ⟨W2, hW2⟩ : ∃ W2, W2 = wr := ⟨_, rfl⟩
      rw [← hW2] at HM HBWR HSR HLR hws hc hc2 hc3 x0 x1 x2 xl hsl2 ⊢
      clear hW2
      go_wp2_with (refine (chosenm_any fn _ HFN.out A3 c3 l W2 HLR.out (by omega)).mono ?_; rintro e w1 ⟨A4, c4, rfl, hb4, hr4⟩; have HB4 := hid hb4; have HR4 := hid hr4; have HM4 := hid (HM.out.after hb4 HV.out); clear hb4 hr4)
      obtain ⟨l4, hl4⟩ : ∃ l4, l4 = l.filter (fun m => m.good || !well) := ⟨_, rfl⟩
      rw [← hl4] at HR4 ⊢
      have hl4l : l4.length ≤ 20 := by rw [hl4]; exact Nat.le_trans (List.length_filter_le _ _) hll
      have HL4 := hid hl4
      clear hl4
      go_loopw [32] (fun t wr' => ∃ (e : Nat) (ks' : List Int), e ≤ l4.length ∧ t = .int .i64 (e : Int) ∧ Rc w wr' #[.int .i64 b.letters, .slice As b.start.length cs, .slice (some ⟨g2, o2, none⟩) b.next.length cn] b ks' ∧ Chg (fun k => k = w.heap.size + 1) w1 wr' ∧ ∀ s : Int, s ∈ ks' ↔ (hitB b (set.take k) an well s || (l4.take e).any fun m => decide (m.dst = s)) = true) (fun t _ => l4.length - (intOf t).toNat)
      case atStart => exact ⟨0, ks, Nat.zero_le _, rfl, HM4.out, Chg.refl _ _, fun s => by rw [HH.out s]; simp⟩
      case round =>
        obtain ⟨e, ks', he, rfl, hM, hch, hh⟩ := hrel
        have HM2 := hid hM
        have HH2 := hid hh
        have HCH := hid hch
        have HLR2 := hid (HR4.out.keep (hch.keeps fun b hb hd hv => by have hd : W2.heap.size ≤ b := hd; omega))
        have hset2 := hM.set.lt
        clear hM hh hch
        by_cases hle : e < l4.length
        · obtain ⟨g4, o4, m, rfl, _, hgl4, HMM, hm0, hm1⟩ := HLR2.out.get hle
          have hei : (e : Int) < l4.length := by omega
          have HSN2 := hid (fun s : Int => any_snoc l4 s hle)
          rw [HMM.out] at HSN2
          obtain ⟨W5, hW5⟩ : ∃ W5, W5 = wr := ⟨_, rfl⟩
          rw [← hW5] at HM2 HCH HLR2 hset2 hgl4 hm0 hm1 ⊢
          clear hW5
          go_upto_region 8 with (fail)
          refine wp_gen fun W6 hW6 => ?_
          have e0 : W6.cell? ⟨W5.heap.size, 0, none⟩ = some (.int .i64 m.dst) := by rw [hW6]; exact cell_new W5 _ _ _ 0 _ rfl rfl
          have hb6 : Below W5.heap.size W5 W6 := by rw [hW6]; go_grown
          have HB6 := hid hb6
          obtain ⟨w7, hrun, hm7, hg7, hs7⟩ := (HM2.out.set.below hb6 hset2).put m.dst
          have HM7 := hid hm7
          have HCH7 := hid (((Chg.of_new hb6 : Chg (fun k => k = w.heap.size + 1) W5 W6)).grown hg7 (fun k e _ => (Option.some.inj e).symm))
          have hs6 : W5.heap.size < W6.heap.size := by rw [hW6]; simp only [World.size_alloc]; omega
          clear hW6 hb6 hm7 hg7
          go_wp2_with fail
          go_roundw
          case rel =>
            refine ⟨e + 1, _, by omega, by go_num, HM2.out.next HCH7.out HV.out HM7.out, HCH.out.trans HCH7.out, fun s => ?_⟩
            rw [mem_addK, HH2.out s, HSN2.out s]
            simp only [Bool.or_eq_true, decide_eq_true_eq, or_assoc]
            exact ⟨fun h => by rcases h with h | h | h
                               · exact .inl h
                               · exact .inr (.inl h)
                               · exact .inr (.inr h.symm), fun h => by
                               rcases h with h | h | h
                               · exact .inl h
                               · exact .inr (.inl h)
                               · exact .inr (.inr h.symm)⟩
          case measure => simp [intOf]; omega
        · have hee : e = l4.length := by omega
          have HE := hid hee
          clear hee
          go_wp2_with fail
          go_roundw
          case rel =>
            refine ⟨k + 1, ks', by omega, by go_num, HM2.out, fun s => ?_⟩
            rw [HH2.out s, HSN.out s, HMV.out, hitM_filter, ← HL4.out, HE.out]
            simp
          case measure => simp [intOf]; omega
    · have hke : k = set.length := by omega
      have HKE := hid hke
      clear hke
      go_wp2_with fail
      go_ret
      refine ⟨rfl, HM.out.below, ks, HM.out.set, perm_of HM.out.set.nd (reach_nodup b set an well) fun z => ?_⟩
      rw [HH.out z, HKE.out, List.take_length]
      exact (mem_reach HBU.out (fun q hq => by
        obtain ⟨kq, hkq, rfl⟩ := List.getElem_of_mem hq
        have hs := HSE.out kq hkq
        have e1 : set.getD kq 0 = set[kq] := by simp [List.getD, hkq]
        rw [e1] at hs
        exact hs) a0 a1).symm
end Go.Proofs.Ythhknonaebnooaa
set_option linter.unusedVariables false
set_option linter.unusedSimpArgs false
namespace Go.Proofs.Ythhknonaebnooaa
open Go.RowKit
attribute [local go_sem] cell_alloc_old

/-- A node while a step is made: its set nd.set is that in the map in block mb; sv: what lies in its field Set. -/
structure PR where
  nd : Nd
  mb : Nat
  sv : Option Addr × Nat × Nat
  old : Bool
  good : Bool
  gone : Bool
instance : Inhabited PR := ⟨⟨default, 0, (none, 0, 0), false, false, false⟩⟩
def prc (x : PR) : List Value := [.int .i64 x.nd.name, .int .i64 x.nd.parent, .slice x.sv.1 x.sv.2.1 x.sv.2.2, .map (some x.mb), .bool x.old, .bool x.good, .bool x.gone]
/-- The maps of the nodes: from block B on, all different; what lies in the fields Set has one cell. -/
structure PSets (w : World) (B : Nat) (R : List PR) : Prop where
  set : ∀ i, i < R.length → SetIs w (R.getD i default).mb (R.getD i default).nd.set
  lo : ∀ i, i < R.length → B ≤ (R.getD i default).mb
  ne : ∀ i j, i < R.length → j < R.length → i ≠ j → (R.getD i default).mb ≠ (R.getD j default).mb
section
variable {w w' : World} {B : Nat} {R : List PR}
theorem PSets.nil (w : World) (B : Nat) : PSets w B [] := ⟨fun _ h => absurd h (Nat.not_lt_zero _), fun _ h => absurd h (Nat.not_lt_zero _), fun _ _ h => absurd h (Nat.not_lt_zero _)⟩
theorem PSets.lt (h : PSets w B R) {i : Nat} (hi : i < R.length) : (R.getD i default).mb < w.heap.size := (h.set i hi).lt
theorem PSets.keep (h : PSets w B R) (hb : ∀ i, i < R.length → w'.heap[(R.getD i default).mb]? = w.heap[(R.getD i default).mb]?) : PSets w' B R :=
  ⟨fun i hi => (h.set i hi).of_block (hb i hi), h.lo, h.ne⟩
theorem PSets.below (h : PSets w B R) (hb : Below w.heap.size w w') : PSets w' B R := h.keep fun i hi => hb.block _ (h.lt hi)
theorem getD_snoc {α : Type} (l : List α) (x d : α) (i : Nat) (hi : i < l.length + 1) : (l ++ [x]).getD i d = if i = l.length then x else l.getD i d := by
  by_cases e : i = l.length
  · subst e; simp [List.getD, List.getElem?_append]
  · simp [List.getD, List.getElem?_append, e, show i < l.length by omega]
theorem PSets.snoc (h : PSets w B R) {x : PR} (hs : SetIs w x.mb x.nd.set) (hl : B ≤ x.mb) (hn : ∀ i, i < R.length → (R.getD i default).mb ≠ x.mb) : PSets w B (R ++ [x]) := by
  have hlen : (R ++ [x]).length = R.length + 1 := by simp
  refine ⟨fun i hi => ?_, fun i hi => ?_, fun i j hi hj hij => ?_⟩
  · rw [hlen] at hi; rw [getD_snoc R x _ i hi]; split
    · exact hs
    · exact h.set i (by omega)
  · rw [hlen] at hi; rw [getD_snoc R x _ i hi]; split
    · exact hl
    · exact h.lo i (by omega)
  · rw [hlen] at hi hj; rw [getD_snoc R x _ i hi, getD_snoc R x _ j hj]
    split
    · rw [if_neg (by omega)]; exact fun e => hn j (by omega) e.symm
    · split
      · exact hn i (by omega)
      · exact h.ne i j (by omega) (by omega) hij
end
theorem prc_one (R : List PR) : ∀ u ∈ R.flatMap prc, u.oneCell' = true := by
  intro u hu
  obtain ⟨x, hx, hu⟩ := List.mem_flatMap.1 hu
  simp only [prc, List.mem_cons, List.not_mem_nil, or_false] at hu
  rcases hu with rfl | rfl | rfl | rfl | rfl | rfl | rfl <;> rfl
theorem node_info : (Try.prog.info? 67).map (fun i => (i.zero, i.size, i.bytes)) = some (some (.agg #[.int .i64 0, .int .i64 0, .slice none 0 0, .map none, .bool false, .bool false, .bool false]), 7, 56) := by kernel_rfl
theorem build_n1 (nm pr : Int) (A : Option Addr) (n c mb : Nat) (w : World) : (Instr.build 67 #[(0, .agg #[.int .i64 nm, .int .i64 pr, .slice A n c]), (1, .map (some mb)), (2, .bool true)]).run Try.prog w = .ok (.agg #[.int .i64 nm, .int .i64 pr, .slice A n c, .map (some mb), .bool true, .bool false, .bool false]) w := run_build w 67 _ _ (by kernel_rfl)
theorem build_n2 (pr : Int) (mb : Nat) (w : World) : (Instr.build 67 #[(0, .agg #[.int .i64 0, .int .i64 pr, .slice none 0 0]), (1, .map (some mb))]).run Try.prog w = .ok (.agg #[.int .i64 0, .int .i64 pr, .slice none 0 0, .map (some mb), .bool false, .bool false, .bool false]) w := run_build w 67 _ _ (by kernel_rfl)
theorem build_n3 (pr : Int) (w : World) : (Instr.build 43 #[(1, .int .i64 pr)]).run Try.prog w = .ok (.agg #[.int .i64 0, .int .i64 pr, .slice none 0 0]) w := run_build w 43 _ _ (by kernel_rfl)
attribute [local go_sem] build_n1 build_n2 build_n3
/-- What grown makes, row by row. -/
def grownP (b : Bu) (t : List Nd) (a : Int) (i : Nat) : Nd := if i < t.length then { nd t i with set := reachZ b (nd t i).set a false } else ⟨0, ((i - t.length : Nat) : Int), reachZ b (nd t (i - t.length)).set a true⟩
theorem grownP_get (b : Bu) (t : List Nd) (a : Int) {i : Nat} (hi : i < 2 * t.length) : nd (grownZ b t a) i = grownP b t a i := by
  unfold grownZ grownP nd
  by_cases h : i < t.length
  · rw [if_pos h]; simp [List.getD, List.getElem?_append, h]
  · rw [if_neg h]
    have h2 : i - t.length < t.length := by omega
    simp [List.getD, List.getElem?_append, h, h2]
/-- The rows that are made: those of the first k nodes. -/
def RGrown (b : Bu) (t : List Nd) (a : Int) (k : Nat) (R : List PR) : Prop :=
  R.length = k ∧ ∀ i, i < k → (R.getD i default).nd = grownP b t a i ∧ (R.getD i default).old = decide (i < t.length) ∧ (R.getD i default).good = false ∧ (R.getD i default).gone = false
theorem RGrown.snoc {b : Bu} {t : List Nd} {a : Int} {k : Nat} {R : List PR} (h : RGrown b t a k R) {x : PR} (h1 : x.nd = grownP b t a k) (h2 : x.old = decide (k < t.length)) (h3 : x.good = false) (h4 : x.gone = false) : RGrown b t a (k + 1) (R ++ [x]) := by
  refine ⟨by simp [h.1], fun i hi => ?_⟩
  rw [getD_snoc R x _ i (by rw [h.1]; exact hi)]
  split
  · rename_i e
    rw [h.1] at e; subst e
    exact ⟨h1, h2, h3, h4⟩
  · rename_i e
    rw [h.1] at e
    exact h.2 i (by omega)
end Go.Proofs.Ythhknonaebnooaa
