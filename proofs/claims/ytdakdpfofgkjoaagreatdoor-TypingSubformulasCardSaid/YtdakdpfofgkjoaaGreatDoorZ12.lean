/-
  Walks of loose, IsKernel and Size.
  Walks of cmp.Compare, strings.Compare and compareNodes.
-/
import Derived.Test.YtdakdpfofgkjoaaGreatDoorZ11
import Derived.Lib.Strings
import Derived.Lib.Bytealg
set_option linter.unusedVariables false
set_option linter.unusedSimpArgs false
namespace Go.Proofs.YtdakdpfofgkjoaaGreatDoor
open Go.RowKit Go.Shelf
attribute [local go_sem] cell_alloc_old Oper.semAt_some

def looseB (f : Fm) : Bool := fitsB f 400 60 && allB bareQ f
def kernelB (f : Fm) : Bool := fitsB f 60 20 && allB bareQ f
set_option maxRecDepth 100000 in
set_option maxHeartbeats 4000000 in
theorem loose_any {D : Dom} (f : Fm) (b o : Nat) (A : Option Addr) (c : Nat) (w : World) (h : HasF w D b o f A c) (hg : GF w) (hk : GK w) :
    Calls Tryz.prog 52 #[.pointer (some ⟨b, o, none⟩)] w fun e w' => e = .returned (.bool (looseB f)) ∧ Below w.heap.size w w' := by
  have HH := hid h.old
  have HG := hid hg
  have HK := hid hk
  have HWI := hid (within_any f b o A c 400 60 w h (by decide) (by decide) (by decide) (by decide))
  clear h hg hk
  cases hfit : fitsB f 400 60
  · have HR := hid (show looseB f = false by unfold looseB; rw [hfit]; rfl)
    rw [hfit] at HWI
    clear hfit
    go_enter Tryz.func52, Tryz.ntmps52
    go_wp2_with (first | (go_at_call 47; refine HWI.out.mono ?_; rintro e V ⟨rfl, hbV⟩))
    go_ret
    exact ⟨ret_bool HR.out.symm, hbV⟩
  · have HR := hid (show looseB f = allB bareQ f by unfold looseB; rw [hfit]; rfl)
    have HD := hid (show f.depth ≤ 5000 by have := (fits_true.1 hfit).2; omega)
    rw [hfit] at HWI
    clear hfit
    go_enter Tryz.func52, Tryz.ntmps52
    go_wp2_with (first | (go_at_call 47; refine HWI.out.mono ?_; rintro e V ⟨rfl, hbV⟩) | (go_at_call 86; refine (bare_any f b o A c V (HH.out.keep (Keeps.of_below hbV fun _ h => h)) (HG.out.below hbV HG.out.pos) (HK.out.below hbV HK.out.pos) HD.out).mono ?_; rintro e w2 ⟨rfl, hb2⟩))
    go_ret
    exact ⟨ret_bool HR.out.symm, hbV.trans (hb2.mono hbV.size)⟩
theorem marks_ret' {P : Program} {fn : Func} {R : Ending → World → Prop} {a : Act} {w : World} {D : Nat} {v : Value} (hd : a.defers = [{ target := .collected D, args := #[] }]) (hD : w.heap[D]? = some (.deferred (some [])))
    (hr : ∀ w', (results fn a.tmps).run P w' = .ok v w') (h : ∀ w', Chg (fun b => b = D) w w' → R (.returned v) w') : bodyPostM Fence.wide 3 P fn R .ret a w := marks_ret hd hD (fun w' _ => hr w') h
set_option maxRecDepth 100000 in
set_option maxHeartbeats 4000000 in
theorem size_any {D : Dom} (f : Fm) (v : Value) (w : World) (h : RdF3 w D v f) (hg : GF w) (hd : f.depth ≤ 5000) (hz : f.size ≤ 1000000) :
    Calls Tryz.prog 20 #[v] w fun e w' => e = .returned (.int .i64 (f.size : Int)) ∧ Below w.heap.size w w' := by
  obtain ⟨A, c, rfl, ha⟩ := h
  have HA := hid ha.old
  have HG := hid hg
  have HD := hid hd
  clear ha hg hd
  refine (callsIn_wide (n := 3)).1 (callsIn_of_wp_marks Tryz.func20 rfl trivial ?_ rfl)
  simp only [Tryz.ntmps20, List.size_toArray, List.length_cons, List.length_nil, Nat.reduceAdd, Nat.reduceSub, Array.replicate_succ, Array.replicate_zero, List.push_toArray, List.append_toArray, List.nil_append, List.cons_append]
  refine wpIn_wide.2 ?_
  go_upto_region 2 with (fail)
  refine wp_gen fun W hW => ?_
  have hb : Below w.heap.size w W := by rw [hW]; go_grown
  have e0 : Box5 W w.heap.size f A c := by
    show W.heap[w.heap.size]? = _
    rw [hW, at_old _ _ _ (by simp)]; exact at_new _ _ _ rfl
  have e1 : W.heap[w.heap.size + 1]? = some (.cells #[.int .i64 0] 3 (0, 0)) := by rw [hW]; exact at_new _ _ _ (by simp)
  have hs : w.heap.size + 2 ≤ W.heap.size := by rw [hW]; simp
  have HB := hid hb
  have HE0 := hid e0
  have HE1 := hid e1
  have HS := hid hs
  clear hW hb e0 e1 hs
  go_wp2_with (first | (go_at_call 45; refine (nodes_any _ W).mono ?_; rintro e w2 ⟨rfl, rfl⟩))
  refine wp_gen fun W2 hW2 => ?_
  have hb2 : Below W.heap.size W W2 := by rw [hW2]; go_grown
  have hp2 : W2.cell? ⟨W.heap.size, 0, none⟩ = some (.pointer (some ⟨w.heap.size, 0, none⟩)) := by rw [hW2]; exact block_cell (at_new _ _ _ rfl) (i := 0) rfl
  have hs2 : w.heap.size + 3 ≤ W2.heap.size := by rw [hW2]; simp; have := HS.out; omega
  have HB2 := hid (HB.out.trans (hb2.mono HB.out.size))
  have hE1 : W2.heap[w.heap.size + 1]? = some (.cells #[.int .i64 ((0 : Nat) : Int)] 3 (0, 0)) := (hb2.block _ (by have := HS.out; omega)).trans HE1.out
  have HF := hid (Box5.hasF (D := (· < w.heap.size + 1)) (HE0.out.below hb2) (Nat.lt_succ_self _) ((HA.out.keep (Keeps.of_below HB2.out fun _ h => h)).mono fun k hk _ => Nat.lt_succ_of_lt hk))
  have HP := hid hp2
  have HS2 := hid hs2
  have HE1' := hid hE1
  have HG2 := hid (HG.out.below HB2.out HG.out.pos)
  clear hW2 hb2 hp2 hs2 hE1
  refine range_nodes f w.heap.size 0 W.heap.size (w.heap.size + 1) A c (fun b => b = w.heap.size + 1)
    (fun k W' => W'.heap[w.heap.size + 1]? = some (.cells #[.int .i64 (k : Int)] 3 (0, 0)))
    (fun c W' => False)
    rfl rfl HF.out (by omega) (by have := HS2.out; omega) HP.out HG2.out HD.out ?hZ ?hI ?hIx HE1'.out ?a1 ?hassign ?hround ?hdone ?hstop
  case hassign =>
    intro l p q W K hK
    gi_wp2
    exact hK
  case hZ => intro b hb; have := HS2.out; omega
  case hI => rintro k W3 W4 h2 hc; exact hc.box h2 (by have := HS2.out; omega)
  case hIx => rintro c W3 W4 h0 hc; exact h0
  case hround =>
    rintro l k W3 b o A' c' hs3 hg3 hc3 hk2 hlen hf3
    have r0 := block_cell hk2 (i := 0) rfl
    have r1 := block_free hk2 (i := 0)
    have hlen' : k < f.size := by rw [← preL_len false f]; exact hlen
    have HK2 := hid hk2
    clear hk2 hlen hf3 hg3 hc3
    gi_wp2_with fail
    refine ⟨(Chg.refl _ W3).set _ _ (fun _ => rfl), ?_⟩
    show (W3.setCell ⟨w.heap.size + 1, 0, none⟩ (.int .i64 ((k : Int) + 1))).heap[w.heap.size + 1]? = some (.cells #[.int .i64 ((k + 1 : Nat) : Int)] 3 (0, 0))
    rw [set_block HK2.out]
    simp
  case hdone =>
    rintro W3 hc h2 hD3
    have r0 := block_cell h2 (i := 0) rfl
    dsimp only
    go_wp2_with fail
    have hc4 := HB2.out.trans (hc.below (B := w.heap.size) (fun b hb => by omega) HB2.out.size)
    refine marks_ret' rfl hD3 (v := .int .i64 (f.size : Int)) (fun w' => ?_) (fun w' hc' => ⟨rfl, hc4.trans (hc'.below (fun b hb => by have := HS2.out; omega) hc4.size)⟩)
    simp [results, Tryz.results20, go_sem]
  case hstop =>
    rintro c W3 hc h0 hD3
    exact h0.elim
end Go.Proofs.YtdakdpfofgkjoaaGreatDoor
set_option linter.unusedVariables false
set_option linter.unusedSimpArgs false
namespace Go.Proofs.YtdakdpfofgkjoaaGreatDoor
open Go.RowKit Go.Shelf
attribute [local go_sem] cell_alloc_old Oper.semAt_some

theorem isnan_any (x : Int) (w : World) : Calls Tryz.prog 146 #[.int .i64 x] w fun e w' => e = .returned (.bool false) ∧ w' = w := by
  have hne : (x != x) = false := by simp
  go_enter Tryz.func146, Tryz.ntmps146
  go_wp2_with fail
  go_ret
  exact ⟨rfl, rfl⟩
theorem cmpi_any (x y : Int) (w : World) : Calls Tryz.prog 136 #[.int .i64 x, .int .i64 y] w fun e w' => e = .returned (.int .i64 (cmpZ x y)) ∧ w' = w := by
  by_cases h1 : x < y
  · have d1 : decide (x < y) = true := decide_eq_true h1
    go_enter Tryz.func136, Tryz.ntmps136
    go_wp2_with (first | (go_at_call 146; refine (isnan_any _ _).mono ?_; rintro e w' ⟨rfl, rfl⟩))
    go_ret
    exact ⟨ret_int (by unfold cmpZ; rw [if_pos h1]), rfl⟩
  · have d1 : decide (x < y) = false := decide_eq_false h1
    by_cases h2 : y < x
    · have d2 : decide (y < x) = true := decide_eq_true h2
      go_enter Tryz.func136, Tryz.ntmps136
      go_wp2_with (first | (go_at_call 146; refine (isnan_any _ _).mono ?_; rintro e w' ⟨rfl, rfl⟩))
      go_ret
      exact ⟨ret_int (by unfold cmpZ; rw [if_neg (by omega), if_pos (by omega)]), rfl⟩
    · have d2 : decide (y < x) = false := decide_eq_false h2
      go_enter Tryz.func136, Tryz.ntmps136
      go_wp2_with (first | (go_at_call 146; refine (isnan_any _ _).mono ?_; rintro e w' ⟨rfl, rfl⟩))
      go_ret
      exact ⟨ret_int (by unfold cmpZ; rw [if_neg (by omega), if_neg (by omega)]), rfl⟩
theorem compareBytes_eq : ∀ l m : List UInt8, Lib.compareBytes l m = if l == m then 0 else if Op.bytesLess l m then -1 else 1
  | [], [] => by simp [Lib.compareBytes]
  | [], _ :: _ => by simp [Lib.compareBytes, Op.bytesLess]
  | _ :: _, [] => by simp [Lib.compareBytes, Op.bytesLess]
  | a :: x, b :: y => by
    rw [Lib.compareBytes, compareBytes_eq x y, Op.bytesLess]
    by_cases h1 : a < b
    · have h2 : ¬ a = b := by rintro rfl; exact UInt8.lt_irrefl _ h1
      simp [h1, h2]
    · by_cases h2 : b < a
      · have h3 : ¬ a = b := by rintro rfl; exact UInt8.lt_irrefl _ h2
        simp [h1, h2, h3]
      · have h3 : a = b := UInt8.le_antisymm (UInt8.not_lt.1 h2) (UInt8.not_lt.1 h1)
        subst h3
        simp [h1]
theorem compareBytes_cmpS (a b : ByteArray) : Lib.compareBytes a.data.toList b.data.toList = cmpS a b := by
  unfold cmpS
  rw [compareBytes_eq, ByteArray.toList_eq, ByteArray.toList_eq]
set_option maxHeartbeats 1000000 in
set_option maxRecDepth 100000 in
theorem cmpstr_any (a b : ByteArray) (w : World) :
    Calls Tryz.prog 147 #[.string a, .string b] w fun e w' => e = .returned (.int .i64 (cmpS a b)) ∧ w' = w := by
  rw [← compareBytes_cmpS]
  go_enter Tryz.func147, Tryz.ntmps147
  go_wp2
  rw [run_callFunc_extern Tryz.func151 (by kernel_rfl) (by kernel_rfl) (by kernel_rfl) (e := Extern.BytealgCompare.compare) (by kernel_rfl), Lib.run_compareString]
  simp only [Result.andThen]
  rw [Oper.upon_value]
  go_wp2
  go_ret
  exact ⟨rfl, rfl⟩
theorem strcmp_any (a b : ByteArray) (w : World) :
    Calls Tryz.prog 137 #[.string a, .string b] w fun e w' => e = .returned (.int .i64 (cmpS a b)) ∧ w' = w := by
  go_enter Tryz.func137, Tryz.ntmps137
  go_wp2_with (go_at_call 147; refine (cmpstr_any _ _ _).mono ?_; rintro e w' ⟨rfl, rfl⟩)
  go_ret
  exact ⟨rfl, rfl⟩
theorem cmpS_zero {a b : ByteArray} : cmpS a b = 0 ↔ (a.toList == b.toList) = true := by
  unfold cmpS
  cases a.toList == b.toList
  · cases Op.bytesLess a.toList b.toList <;> simp
  · simp
theorem bne_false_of {a b : Int} (h : a = b) : (a != b) = false := by rw [h]; simp
theorem bne_true_of {a b : Int} (h : ¬ a = b) : (a != b) = true := by simp [h]
theorem nz_ne {a b : Int} (h : a ≠ 0) : nz a b = a := by unfold nz; rw [if_neg h]
set_option maxRecDepth 100000 in
set_option maxHeartbeats 4000000 in
theorem cmpnodes_any {D E : Dom} (f g : Fm) (b o b' o' : Nat) (A A' : Option Addr) (c c' : Nat) (w : World) (h : HasF w D b o f A c) (h' : HasF w E b' o' g A' c') :
    Calls Tryz.prog 130 #[.pointer (some ⟨b, o, none⟩), .pointer (some ⟨b', o', none⟩)] w fun e w' => e = .returned (.int .i64 (headZ f g)) ∧ Drawn w w' := by
  have HX := hid (fun (W : World) (hd : Drawn w W) => (show (W.cell? ⟨b, o, none⟩ = some (.int .i64 f.op) ∧ W.cell? ⟨b, o + 1, none⟩ = some (.string f.name) ∧ W.cell? ⟨b, o + 2, none⟩ = some (.int .i64 f.val) ∧ W.cell? ⟨b, o + 3, none⟩ = some (.int .i64 f.bound) ∧ W.cell? ⟨b, o + 4, none⟩ = some (.slice A f.args.length c)) ∧
    W.cell? ⟨b', o', none⟩ = some (.int .i64 g.op) ∧ W.cell? ⟨b', o' + 1, none⟩ = some (.string g.name) ∧ W.cell? ⟨b', o' + 2, none⟩ = some (.int .i64 g.val) ∧ W.cell? ⟨b', o' + 3, none⟩ = some (.int .i64 g.bound) ∧ W.cell? ⟨b', o' + 4, none⟩ = some (.slice A' g.args.length c') from by
      obtain ⟨n, rfl⟩ := hd
      exact ⟨⟨h.c0, h.c1, h.c2, h.c3, h.c4⟩, h'.c0, h'.c1, h'.c2, h'.c3, h'.c4⟩))
  clear h h'
  obtain ⟨⟨x0, x1, x2, x3, x4⟩, y0, y1, y2, y3, y4⟩ := HX.out w (Drawn.refl w)
  by_cases h0 : f.op = g.op
  · have n0 := bne_false_of h0
    have Z0 := hid (show cmpZ f.op g.op = 0 from cmpZ_zero.2 h0)
    clear h0
    cases h1 : f.name.toList == g.name.toList
    · have hne : cmpS f.name g.name ≠ 0 := fun e => by rw [cmpS_zero, h1] at e; cases e
      have HR := hid (show headZ f g = cmpS f.name g.name by unfold headZ; rw [Z0.out, zero_nz, nz_ne hne])
      clear hne
      go_enter Tryz.func130, Tryz.ntmps130
      go_wp2_with fail
      go_quiet (first | (go_at_call 136; exact Calls.quiet_of_same (cmpi_any _ _ _)) | (go_at_call 137; exact Calls.quiet_of_same (strcmp_any _ _ _)))
      obtain ⟨V1, hV, hd1⟩ : ∃ V, V = w.drewN nq ∧ Drawn w V := ⟨_, rfl, (Drawn.refl w).trans ⟨nq, rfl⟩⟩
      rw [← hV]
      clear hV x0 x1 x2 x3 x4 y0 y1 y2 y3 y4
      obtain ⟨⟨x0, x1, x2, x3, x4⟩, y0, y1, y2, y3, y4⟩ := HX.out V1 hd1
      go_wp2_with fail
      go_quiet (first | (go_at_call 136; exact Calls.quiet_of_same (cmpi_any _ _ _)) | (go_at_call 137; exact Calls.quiet_of_same (strcmp_any _ _ _)))
      obtain ⟨V2, hV, hd2⟩ : ∃ V, V = V1.drewN nq ∧ Drawn w V := ⟨_, rfl, hd1.trans ⟨nq, rfl⟩⟩
      rw [← hV]
      clear hV x0 x1 x2 x3 x4 y0 y1 y2 y3 y4
      obtain ⟨⟨x0, x1, x2, x3, x4⟩, y0, y1, y2, y3, y4⟩ := HX.out V2 hd2
      go_wp2_with fail
      go_quiet (first | (go_at_call 136; exact Calls.quiet_of_same (cmpi_any _ _ _)) | (go_at_call 137; exact Calls.quiet_of_same (strcmp_any _ _ _)))
      obtain ⟨V3, hV, hd3⟩ : ∃ V, V = V2.drewN nq ∧ Drawn w V := ⟨_, rfl, hd2.trans ⟨nq, rfl⟩⟩
      rw [← hV]
      clear hV x0 x1 x2 x3 x4 y0 y1 y2 y3 y4
      obtain ⟨⟨x0, x1, x2, x3, x4⟩, y0, y1, y2, y3, y4⟩ := HX.out V3 hd3
      go_wp2_with fail
      go_ret
      exact ⟨ret_int HR.out.symm, hd3⟩
    · have Z1 := hid (cmpS_zero.2 h1)
      by_cases h2 : f.val = g.val
      · have n2 := bne_false_of h2
        have Z2 := hid (show cmpZ f.val g.val = 0 from cmpZ_zero.2 h2)
        clear h2
        by_cases h3 : f.bound = g.bound
        · have n3 := bne_false_of h3
          have Z3 := hid (show cmpZ f.bound g.bound = 0 from cmpZ_zero.2 h3)
          have HR := hid (show headZ f g = cmpZ f.args.length g.args.length by unfold headZ; rw [Z0.out, Z1.out, Z2.out, Z3.out, zero_nz, zero_nz, zero_nz, zero_nz])
          clear h3
          go_enter Tryz.func130, Tryz.ntmps130
          go_wp2_with fail
          go_quiet (first | (go_at_call 136; exact Calls.quiet_of_same (cmpi_any _ _ _)) | (go_at_call 137; exact Calls.quiet_of_same (strcmp_any _ _ _)))
          obtain ⟨V1, hV, hd1⟩ : ∃ V, V = w.drewN nq ∧ Drawn w V := ⟨_, rfl, (Drawn.refl w).trans ⟨nq, rfl⟩⟩
          rw [← hV]
          clear hV x0 x1 x2 x3 x4 y0 y1 y2 y3 y4
          obtain ⟨⟨x0, x1, x2, x3, x4⟩, y0, y1, y2, y3, y4⟩ := HX.out V1 hd1
          go_wp2_with fail
          go_quiet (first | (go_at_call 136; exact Calls.quiet_of_same (cmpi_any _ _ _)) | (go_at_call 137; exact Calls.quiet_of_same (strcmp_any _ _ _)))
          obtain ⟨V2, hV, hd2⟩ : ∃ V, V = V1.drewN nq ∧ Drawn w V := ⟨_, rfl, hd1.trans ⟨nq, rfl⟩⟩
          rw [← hV]
          clear hV x0 x1 x2 x3 x4 y0 y1 y2 y3 y4
          obtain ⟨⟨x0, x1, x2, x3, x4⟩, y0, y1, y2, y3, y4⟩ := HX.out V2 hd2
          go_wp2_with fail
          go_quiet (first | (go_at_call 136; exact Calls.quiet_of_same (cmpi_any _ _ _)) | (go_at_call 137; exact Calls.quiet_of_same (strcmp_any _ _ _)))
          obtain ⟨V3, hV, hd3⟩ : ∃ V, V = V2.drewN nq ∧ Drawn w V := ⟨_, rfl, hd2.trans ⟨nq, rfl⟩⟩
          rw [← hV]
          clear hV x0 x1 x2 x3 x4 y0 y1 y2 y3 y4
          obtain ⟨⟨x0, x1, x2, x3, x4⟩, y0, y1, y2, y3, y4⟩ := HX.out V3 hd3
          go_wp2_with fail
          go_quiet (first | (go_at_call 136; exact Calls.quiet_of_same (cmpi_any _ _ _)) | (go_at_call 137; exact Calls.quiet_of_same (strcmp_any _ _ _)))
          obtain ⟨V4, hV, hd4⟩ : ∃ V, V = V3.drewN nq ∧ Drawn w V := ⟨_, rfl, hd3.trans ⟨nq, rfl⟩⟩
          rw [← hV]
          clear hV x0 x1 x2 x3 x4 y0 y1 y2 y3 y4
          obtain ⟨⟨x0, x1, x2, x3, x4⟩, y0, y1, y2, y3, y4⟩ := HX.out V4 hd4
          go_wp2_with fail
          go_quiet (first | (go_at_call 136; exact Calls.quiet_of_same (cmpi_any _ _ _)) | (go_at_call 137; exact Calls.quiet_of_same (strcmp_any _ _ _)))
          obtain ⟨V5, hV, hd5⟩ : ∃ V, V = V4.drewN nq ∧ Drawn w V := ⟨_, rfl, hd4.trans ⟨nq, rfl⟩⟩
          rw [← hV]
          clear hV x0 x1 x2 x3 x4 y0 y1 y2 y3 y4
          obtain ⟨⟨x0, x1, x2, x3, x4⟩, y0, y1, y2, y3, y4⟩ := HX.out V5 hd5
          go_wp2_with fail
          go_ret
          exact ⟨ret_int HR.out.symm, hd5⟩
        · have n3 := bne_true_of h3
          have HR := hid (show headZ f g = cmpZ f.bound g.bound by unfold headZ; rw [Z0.out, Z1.out, Z2.out, zero_nz, zero_nz, zero_nz, nz_ne fun e => h3 (cmpZ_zero.1 e)])
          clear h3
          go_enter Tryz.func130, Tryz.ntmps130
          go_wp2_with fail
          go_quiet (first | (go_at_call 136; exact Calls.quiet_of_same (cmpi_any _ _ _)) | (go_at_call 137; exact Calls.quiet_of_same (strcmp_any _ _ _)))
          obtain ⟨V1, hV, hd1⟩ : ∃ V, V = w.drewN nq ∧ Drawn w V := ⟨_, rfl, (Drawn.refl w).trans ⟨nq, rfl⟩⟩
          rw [← hV]
          clear hV x0 x1 x2 x3 x4 y0 y1 y2 y3 y4
          obtain ⟨⟨x0, x1, x2, x3, x4⟩, y0, y1, y2, y3, y4⟩ := HX.out V1 hd1
          go_wp2_with fail
          go_quiet (first | (go_at_call 136; exact Calls.quiet_of_same (cmpi_any _ _ _)) | (go_at_call 137; exact Calls.quiet_of_same (strcmp_any _ _ _)))
          obtain ⟨V2, hV, hd2⟩ : ∃ V, V = V1.drewN nq ∧ Drawn w V := ⟨_, rfl, hd1.trans ⟨nq, rfl⟩⟩
          rw [← hV]
          clear hV x0 x1 x2 x3 x4 y0 y1 y2 y3 y4
          obtain ⟨⟨x0, x1, x2, x3, x4⟩, y0, y1, y2, y3, y4⟩ := HX.out V2 hd2
          go_wp2_with fail
          go_quiet (first | (go_at_call 136; exact Calls.quiet_of_same (cmpi_any _ _ _)) | (go_at_call 137; exact Calls.quiet_of_same (strcmp_any _ _ _)))
          obtain ⟨V3, hV, hd3⟩ : ∃ V, V = V2.drewN nq ∧ Drawn w V := ⟨_, rfl, hd2.trans ⟨nq, rfl⟩⟩
          rw [← hV]
          clear hV x0 x1 x2 x3 x4 y0 y1 y2 y3 y4
          obtain ⟨⟨x0, x1, x2, x3, x4⟩, y0, y1, y2, y3, y4⟩ := HX.out V3 hd3
          go_wp2_with fail
          go_quiet (first | (go_at_call 136; exact Calls.quiet_of_same (cmpi_any _ _ _)) | (go_at_call 137; exact Calls.quiet_of_same (strcmp_any _ _ _)))
          obtain ⟨V4, hV, hd4⟩ : ∃ V, V = V3.drewN nq ∧ Drawn w V := ⟨_, rfl, hd3.trans ⟨nq, rfl⟩⟩
          rw [← hV]
          clear hV x0 x1 x2 x3 x4 y0 y1 y2 y3 y4
          obtain ⟨⟨x0, x1, x2, x3, x4⟩, y0, y1, y2, y3, y4⟩ := HX.out V4 hd4
          go_wp2_with fail
          go_quiet (first | (go_at_call 136; exact Calls.quiet_of_same (cmpi_any _ _ _)) | (go_at_call 137; exact Calls.quiet_of_same (strcmp_any _ _ _)))
          obtain ⟨V5, hV, hd5⟩ : ∃ V, V = V4.drewN nq ∧ Drawn w V := ⟨_, rfl, hd4.trans ⟨nq, rfl⟩⟩
          rw [← hV]
          clear hV x0 x1 x2 x3 x4 y0 y1 y2 y3 y4
          obtain ⟨⟨x0, x1, x2, x3, x4⟩, y0, y1, y2, y3, y4⟩ := HX.out V5 hd5
          go_wp2_with fail
          go_ret
          exact ⟨ret_int HR.out.symm, hd5⟩
      · have n2 := bne_true_of h2
        have HR := hid (show headZ f g = cmpZ f.val g.val by unfold headZ; rw [Z0.out, Z1.out, zero_nz, zero_nz, nz_ne fun e => h2 (cmpZ_zero.1 e)])
        clear h2
        go_enter Tryz.func130, Tryz.ntmps130
        go_wp2_with fail
        go_quiet (first | (go_at_call 136; exact Calls.quiet_of_same (cmpi_any _ _ _)) | (go_at_call 137; exact Calls.quiet_of_same (strcmp_any _ _ _)))
        obtain ⟨V1, hV, hd1⟩ : ∃ V, V = w.drewN nq ∧ Drawn w V := ⟨_, rfl, (Drawn.refl w).trans ⟨nq, rfl⟩⟩
        rw [← hV]
        clear hV x0 x1 x2 x3 x4 y0 y1 y2 y3 y4
        obtain ⟨⟨x0, x1, x2, x3, x4⟩, y0, y1, y2, y3, y4⟩ := HX.out V1 hd1
        go_wp2_with fail
        go_quiet (first | (go_at_call 136; exact Calls.quiet_of_same (cmpi_any _ _ _)) | (go_at_call 137; exact Calls.quiet_of_same (strcmp_any _ _ _)))
        obtain ⟨V2, hV, hd2⟩ : ∃ V, V = V1.drewN nq ∧ Drawn w V := ⟨_, rfl, hd1.trans ⟨nq, rfl⟩⟩
        rw [← hV]
        clear hV x0 x1 x2 x3 x4 y0 y1 y2 y3 y4
        obtain ⟨⟨x0, x1, x2, x3, x4⟩, y0, y1, y2, y3, y4⟩ := HX.out V2 hd2
        go_wp2_with fail
        go_quiet (first | (go_at_call 136; exact Calls.quiet_of_same (cmpi_any _ _ _)) | (go_at_call 137; exact Calls.quiet_of_same (strcmp_any _ _ _)))
        obtain ⟨V3, hV, hd3⟩ : ∃ V, V = V2.drewN nq ∧ Drawn w V := ⟨_, rfl, hd2.trans ⟨nq, rfl⟩⟩
        rw [← hV]
        clear hV x0 x1 x2 x3 x4 y0 y1 y2 y3 y4
        obtain ⟨⟨x0, x1, x2, x3, x4⟩, y0, y1, y2, y3, y4⟩ := HX.out V3 hd3
        go_wp2_with fail
        go_quiet (first | (go_at_call 136; exact Calls.quiet_of_same (cmpi_any _ _ _)) | (go_at_call 137; exact Calls.quiet_of_same (strcmp_any _ _ _)))
        obtain ⟨V4, hV, hd4⟩ : ∃ V, V = V3.drewN nq ∧ Drawn w V := ⟨_, rfl, hd3.trans ⟨nq, rfl⟩⟩
        rw [← hV]
        clear hV x0 x1 x2 x3 x4 y0 y1 y2 y3 y4
        obtain ⟨⟨x0, x1, x2, x3, x4⟩, y0, y1, y2, y3, y4⟩ := HX.out V4 hd4
        go_wp2_with fail
        go_ret
        exact ⟨ret_int HR.out.symm, hd4⟩
  · have n0 := bne_true_of h0
    have HR := hid (show headZ f g = cmpZ f.op g.op from nz_ne fun e => h0 (cmpZ_zero.1 e))
    clear h0
    go_enter Tryz.func130, Tryz.ntmps130
    go_wp2_with fail
    go_quiet (first | (go_at_call 136; exact Calls.quiet_of_same (cmpi_any _ _ _)) | (go_at_call 137; exact Calls.quiet_of_same (strcmp_any _ _ _)))
    obtain ⟨V1, hV, hd1⟩ : ∃ V, V = w.drewN nq ∧ Drawn w V := ⟨_, rfl, (Drawn.refl w).trans ⟨nq, rfl⟩⟩
    rw [← hV]
    clear hV x0 x1 x2 x3 x4 y0 y1 y2 y3 y4
    obtain ⟨⟨x0, x1, x2, x3, x4⟩, y0, y1, y2, y3, y4⟩ := HX.out V1 hd1
    go_wp2_with fail
    go_quiet (first | (go_at_call 136; exact Calls.quiet_of_same (cmpi_any _ _ _)) | (go_at_call 137; exact Calls.quiet_of_same (strcmp_any _ _ _)))
    obtain ⟨V2, hV, hd2⟩ : ∃ V, V = V1.drewN nq ∧ Drawn w V := ⟨_, rfl, hd1.trans ⟨nq, rfl⟩⟩
    rw [← hV]
    clear hV x0 x1 x2 x3 x4 y0 y1 y2 y3 y4
    obtain ⟨⟨x0, x1, x2, x3, x4⟩, y0, y1, y2, y3, y4⟩ := HX.out V2 hd2
    go_wp2_with fail
    go_ret
    exact ⟨ret_int HR.out.symm, hd2⟩
end Go.Proofs.YtdakdpfofgkjoaaGreatDoor
