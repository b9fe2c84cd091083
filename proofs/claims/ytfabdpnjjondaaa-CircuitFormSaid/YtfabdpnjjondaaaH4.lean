/-
  Walk: Shared of the reference, for a circuit whose gates all differ and are all used.
-/
import Derived.Test.YtfabdpnjjondaaaH3
import Derived.Test.YtfabdpnjjondaaaP10
import Derived.Test.YtfabdpnjjondaaaG15
set_option linter.unusedVariables false
set_option linter.unusedSimpArgs false
namespace Go.Proofs.Ytfabdpnjjondaaa
open Go.RowKit
attribute [local go_sem] cell_alloc_old

theorem gate_differ {g g' : Gt} (h : g ≠ g') (w : World) : (binOp .eql 45 (.agg #[.int .i64 g.k, .int .i64 g.a, .int .i64 g.b]) (.agg #[.int .i64 g'.k, .int .i64 g'.a, .int .i64 g'.b])).run Try.prog w = .ok (.bool false) w := by
  have := gate_equal w g g'
  unfold gval at this
  simp only [binOp]
  simp [this, h]

/-- The marks mk of the circuit c in the block after its own. -/
structure Seen (w wr : World) (cs : Array Value) (mk : List Bool) : Prop where
  below : Below w.heap.size w wr
  box : Box wr w.heap.size cs
  row : wr.heap[w.heap.size + 1]? = some (.cells (mk.map Value.bool).toArray 4 (0, 0))
section
variable {w wr : World} {cs : Array Value} {mk : List Bool}
theorem Seen.set (h : Seen w wr cs mk) (i : Nat) (b : Bool) : Seen w (wr.setCell ⟨w.heap.size + 1, i, none⟩ (.bool b)) cs (mk.set i b) := by
  refine ⟨h.below.setCell (p := ⟨w.heap.size + 1, i, none⟩) (Nat.le_succ _) _, h.box.set (by show w.heap.size ≠ w.heap.size + 1; omega) _, ?_⟩
  rw [set_block h.row (i := i) (.bool b), List.map_set]
  simp
theorem Seen.after {wr' : World} (h : Seen w wr cs mk) (hb : Below wr.heap.size wr wr') : Seen w wr' cs mk :=
  ⟨h.below.trans (hb.mono h.below.size), h.box.below hb (Nat.le_refl _), (hb.block _ (lt_of_block h.row)).trans h.row⟩
theorem Seen.get (h : Seen w wr cs mk) {i : Nat} (hi : i < mk.length) : wr.cell? ⟨w.heap.size + 1, i, none⟩ = some (.bool (mk.getD i false)) ∧ wr.frozen? ⟨w.heap.size + 1, i, none⟩ = false :=
  ⟨block_cell h.row (by simp [List.getD, hi]), block_free h.row⟩
theorem Seen.start (w : World) (cs : Array Value) (t : TypeId) (n : Nat) : Seen w ((w.alloc (.cells cs t)).alloc (zrow (.bool false) n 4)) cs (List.replicate n false) := by
  obtain ⟨w1, h1⟩ : ∃ w1, w1 = w.alloc (.cells cs t) := ⟨_, rfl⟩
  have s1 : w1.heap.size = w.heap.size + 1 := by rw [h1]; simp
  have m1 : Box w1 w.heap.size cs := by rw [h1]; exact Box.new _ _ _ rfl
  have b1 : Below w.heap.size w w1 := by rw [h1]; go_grown
  rw [← h1]
  refine ⟨b1.alloc b1.size _, m1.alloc _, ?_⟩
  rw [← s1, heap_alloc_new]; simp [zrow]
end

/-- The marks that are made after a latches, b outputs, i gates. -/
structure Cov (c : Cir) (a b i : Nat) (mk : List Bool) : Prop where
  len : mk.length = c.gates.length
  lat : ∀ j, j < a → mk.getD (c.lat.getD j 0).toNat false = true
  out : ∀ j, j < b → mk.getD (c.outs.getD j 0).toNat false = true
  gat : ∀ j, j < i → ∀ x, refers (c.gates.getD j default) x → mk.getD x false = true
theorem setB {mk : List Bool} {x y : Nat} (hx : x < mk.length) (h : x = y ∨ mk.getD y false = true) : (mk.set x true).getD y false = true := by
  simp only [List.getD, List.getElem?_set]
  by_cases e : x = y
  · rw [if_pos e, if_pos hx]; rfl
  · rw [if_neg e]
    rcases h with h | h
    · exact absurd h e
    · exact h
section
variable {c : Cir} {a b i : Nat} {mk : List Bool}
theorem Cov.start (c : Cir) : Cov c 0 0 0 (List.replicate c.gates.length false) := ⟨by simp, fun _ h => absurd h (Nat.not_lt_zero _), fun _ h => absurd h (Nat.not_lt_zero _), fun _ h => absurd h (Nat.not_lt_zero _)⟩
theorem Cov.put (h : Cov c a b i mk) {x : Nat} (hx : x < c.gates.length) : Cov c a b i (mk.set x true) :=
  ⟨by rw [List.length_set]; exact h.len, fun j hj => setB (by rw [h.len]; exact hx) (.inr (h.lat j hj)), fun j hj => setB (by rw [h.len]; exact hx) (.inr (h.out j hj)), fun j hj y hy => setB (by rw [h.len]; exact hx) (.inr (h.gat j hj y hy))⟩
theorem Cov.nextl (h : Cov c a b i mk) {x : Nat} (hx : x < c.gates.length) (e : (c.lat.getD a 0).toNat = x) : Cov c (a + 1) b i (mk.set x true) := by
  have hp := h.put hx
  refine ⟨hp.len, fun j hj => ?_, hp.out, hp.gat⟩
  by_cases q : j = a
  · subst q; exact setB (by rw [h.len]; exact hx) (.inl e.symm)
  · exact hp.lat j (by omega)
theorem Cov.nexto (h : Cov c a b i mk) {x : Nat} (hx : x < c.gates.length) (e : (c.outs.getD b 0).toNat = x) : Cov c a (b + 1) i (mk.set x true) := by
  have hp := h.put hx
  refine ⟨hp.len, hp.lat, fun j hj => ?_, hp.gat⟩
  by_cases q : j = b
  · subst q; exact setB (by rw [h.len]; exact hx) (.inl e.symm)
  · exact hp.out j (by omega)
theorem Cov.nextg (h : Cov c a b i mk) (e : ∀ x, refers (c.gates.getD i default) x → mk.getD x false = true) : Cov c a b (i + 1) mk := by
  refine ⟨h.len, h.lat, h.out, fun j hj x hx => ?_⟩
  by_cases q : j = i
  · subst q; exact e x hx
  · exact h.gat j (by omega) x hx
end
theorem Cov.all {c : Cir} {mk : List Bool} (h : Cov c c.lat.length c.outs.length c.gates.length mk) (hs : Shared c) {m : Nat} (hm : m < c.gates.length) : mk.getD m false = true := by
  rcases hs.2 m hm with ⟨j, h1, h2⟩ | ⟨j, h1, h2⟩ | ⟨j, h1, h2⟩
  · rw [← h2]; exact h.lat j h1
  · rw [← h2]; exact h.out j h1
  · exact h.gat j h1 m h2

set_option maxRecDepth 100000 in
set_option maxHeartbeats 8000000 in
theorem shared_any {D : Dom} (v : Value) (c : Cir) (w : World) (h : RdC w D v c) (hv : VC c) (hs : Shared c) :
    Calls Try.prog 21 #[v] w fun e w' => e = .returned (.bool true) ∧ Below w.heap.size w w' := by
  obtain ⟨i0, hi, hz0, hz1, hz2⟩ := info_parts bool_info
  have hz2' : i0.bytes = 1 := hz2
  obtain ⟨Ag, cg, Al, cl, Ao, co, rfl, hg, hl, ho⟩ := h
  have HG := hid hg.old
  have HL := hid hl.old
  have HO := hid ho.old
  have n1 := hg.len.1
  have n2 := hl.len.1
  have n3 := ho.len.1
  have HV := hid hv
  have HSH := hid hs
  clear hg hl ho hv hs
  have hmk := run_make_zrow (P := Try.prog) 65 4 i0 (.bool false) 1 Try.underlying65 hi hz0 hz1 hz2 rfl .i64 .i64 c.gates.length (by omega) (by omega)
  go_enter Try.func21, Try.ntmps21
  go_wp2_with fail
  go_loopw [4] (fun t wr => ∃ (k : Nat) (mk : List Bool), k ≤ c.lat.length ∧ t = .int .i64 k ∧ Seen w wr #[.int .i64 c.ib, .slice Ag c.gates.length cg, .slice Al c.lat.length cl, .slice Ao c.outs.length co] mk ∧ Cov c k 0 0 mk) (fun t _ => c.lat.length - (intOf t).toNat)
  case atStart => exact ⟨0, _, Nat.zero_le _, rfl, Seen.start w _ _ _, Cov.start c⟩
  case round =>
    obtain ⟨k, mk, hk, rfl, hse, hco⟩ := hrel
    have HSE := hid hse
    have HCO := hid hco
    have x1 := hse.box 1 _ rfl
    have x2 := hse.box 2 _ rfl
    have x3 := hse.box 3 _ rfl
    have hwr : w.heap.size + 1 < wr.heap.size := lt_of_block hse.row
    have hmkl := hco.len
    have HMKL := hid hmkl
    clear hmkl hse hco
    by_cases hlt : k < c.lat.length
    · obtain ⟨b, o, x, rfl, _, had, HX, h0⟩ := (HL.out.keep (Keeps.of_below HSE.out.below (fun _ h => h))).get hlt
      have hr := HV.out.lr k hlt
      rw [HX.out] at hr
      obtain ⟨X, rfl⟩ : ∃ X : Nat, x = X := ⟨x.toNat, by omega⟩
      have hXl : X < c.gates.length := by omega
      have hXi : (X : Int) < c.gates.length := by omega
      obtain ⟨q1, q2⟩ := HSE.out.get (i := X) (by rw [HMKL.out]; exact hXl)
      have hki : (k : Int) < c.lat.length := by omega
      clear hr
      go_wp2_with fail
      go_roundw
      case rel => exact ⟨k + 1, _, by omega, by go_num, HSE.out.set X true, HCO.out.nextl hXl (by rw [HX.out]; rfl)⟩
      case measure => simp [intOf]; omega
    · obtain rfl : k = c.lat.length := by omega
      go_wp2_with fail
      go_loopw [5] (fun t wr => ∃ (k : Nat) (mk : List Bool), k ≤ c.outs.length ∧ t = .int .i64 k ∧ Seen w wr #[.int .i64 c.ib, .slice Ag c.gates.length cg, .slice Al c.lat.length cl, .slice Ao c.outs.length co] mk ∧ Cov c c.lat.length k 0 mk) (fun t _ => c.outs.length - (intOf t).toNat)
      case atStart => exact ⟨0, _, Nat.zero_le _, rfl, HSE.out, HCO.out⟩
      case round =>
        obtain ⟨k, mk, hk, rfl, hse, hco⟩ := hrel
        have HSE := hid hse
        have HCO := hid hco
        have x1 := hse.box 1 _ rfl
        have x2 := hse.box 2 _ rfl
        have x3 := hse.box 3 _ rfl
        have hwr : w.heap.size + 1 < wr.heap.size := lt_of_block hse.row
        have hmkl := hco.len
        have HMKL := hid hmkl
        clear hmkl hse hco
        by_cases hlt : k < c.outs.length
        · obtain ⟨b, o, x, rfl, _, had, HX, h0⟩ := (HO.out.keep (Keeps.of_below HSE.out.below (fun _ h => h))).get hlt
          have hr := HV.out.or_ k hlt
          rw [HX.out] at hr
          obtain ⟨X, rfl⟩ : ∃ X : Nat, x = X := ⟨x.toNat, by omega⟩
          have hXl : X < c.gates.length := by omega
          have hXi : (X : Int) < c.gates.length := by omega
          obtain ⟨q1, q2⟩ := HSE.out.get (i := X) (by rw [HMKL.out]; exact hXl)
          have hki : (k : Int) < c.outs.length := by omega
          clear hr
          go_wp2_with fail
          go_roundw
          case rel => exact ⟨k + 1, _, by omega, by go_num, HSE.out.set X true, HCO.out.nexto hXl (by rw [HX.out]; rfl)⟩
          case measure => simp [intOf]; omega
        · obtain rfl : k = c.outs.length := by omega
          go_wp2_with fail
          go_loopw [2, 6] (fun r t wr => ∃ (k : Nat) (mk : List Bool), k ≤ c.gates.length ∧ t = .int .i64 k ∧ r = .bool false ∧ Seen w wr #[.int .i64 c.ib, .slice Ag c.gates.length cg, .slice Al c.lat.length cl, .slice Ao c.outs.length co] mk ∧ Cov c c.lat.length c.outs.length k mk) (fun _ t _ => c.gates.length - (intOf t).toNat)
          case atStart => exact ⟨0, _, Nat.zero_le _, rfl, rfl, HSE.out, HCO.out⟩
          case round =>
            obtain ⟨i, mk, hi2, rfl, rfl, hse, hco⟩ := hrel
            have HSE := hid hse
            have HCO := hid hco
            have x1 := hse.box 1 _ rfl
            have hwr : w.heap.size + 1 < wr.heap.size := lt_of_block hse.row
            have hmkl := hco.len
            have HMKL := hid hmkl
            clear hmkl hse hco
            by_cases hlt : i < c.gates.length
            · go_wp2_with fail
              obtain ⟨wo, rfl⟩ : ∃ wo : World, wo = wr := ⟨_, rfl⟩
              go_loopw [2, 7] (fun r t wr => ∃ (j : Nat), j ≤ i ∧ t = .int .i64 j ∧ r = .bool false ∧ Seen w wr #[.int .i64 c.ib, .slice Ag c.gates.length cg, .slice Al c.lat.length cl, .slice Ao c.outs.length co] mk) (fun _ t _ => i - (intOf t).toNat)
              case atStart => exact ⟨0, Nat.zero_le _, rfl, rfl, HSE.out⟩
              case round =>
                obtain ⟨j, hj, rfl, rfl, hse⟩ := hrel
                have HSE := hid hse
                have x1 := hse.box 1 _ rfl
                have hwr : w.heap.size + 1 < wr.heap.size := lt_of_block hse.row
                have HK := hid (Keeps.of_below (D := fun b => b < w.heap.size) hse.below (fun _ h => h))
                clear hse
                obtain ⟨b, o, g, rfl, _, had, HX, h0, h1, h2⟩ := (HG.out.keep HK.out).get hlt
                have hii : (i : Int) < c.gates.length := by omega
                by_cases hlj : j < i
                · obtain ⟨b', o', g', hA, _, had', HX', h0', h1', h2'⟩ := (HG.out.keep HK.out).get (show j < c.gates.length by omega)
                  obtain ⟨rfl, rfl⟩ : b = b' ∧ o = o' := by
                    injection hA with hA
                    injection hA with e1 e2
                    exact ⟨e1, e2⟩
                  have hne : g' ≠ g := fun e => by
                    have := nodup_getD HSH.out.1 (show j < c.gates.length by omega) hlt (by rw [HX.out, HX'.out]; exact e)
                    omega
                  have hdf := gate_differ hne
                  have hji : (j : Int) < i := by omega
                  have hji2 : (j : Int) < c.gates.length := by omega
                  clear hA hne
                  go_wp2_with fail
                  go_quiet (fail)
                  go_wp2_with fail
                  go_roundw
                  case rel => exact ⟨j + 1, by omega, by go_num, rfl, HSE.out.after ((Drawn.n _ _).below _)⟩
                  case measure => simp [intOf]; omega
                · obtain rfl : j = i := by omega
                  have hgb := HV.out.ok j hlt
                  rw [HX.out] at hgb
                  unfold gateB at hgb
                  by_cases k4 : g.k = 4
                  · have e4 : (g.k == 4) = true := beq_iff_eq.2 k4
                    rw [if_neg (by omega), if_neg (by omega), if_neg (by omega), if_pos k4] at hgb
                    simp only [Bool.and_eq_true, decide_eq_true_eq] at hgb
                    obtain ⟨k, ga, gb⟩ := g
                    obtain ⟨XA, rfl⟩ : ∃ X : Nat, ga = X := ⟨ga.toNat, by have := hgb.1.1; simp only at this; omega⟩
                    obtain ⟨XB, rfl⟩ : ∃ X : Nat, gb = X := ⟨gb.toNat, by have := hgb.1; simp only at this; omega⟩
                    simp only at hgb h0 h1 h2 e4 k4
                    have a1 : XA < c.gates.length := by omega
                    have b1 : XB < c.gates.length := by omega
                    have a2 : (XA : Int) < c.gates.length := by omega
                    have b2 : (XB : Int) < c.gates.length := by omega
                    have HK4 := hid k4
                    obtain ⟨q1, q2⟩ := HSE.out.get (i := XA) (by rw [HMKL.out]; exact a1)
                    clear hgb k4
                    go_upto_region 20 with (fail)
                    refine wp_gen fun W2 hW2 => ?_
                    have hs2 := HSE.out.set XA true
                    rw [← hW2] at hs2
                    have HS2 := hid hs2
                    have hm2 : (mk.set XA true).length = c.gates.length := by rw [List.length_set]; exact HMKL.out
                    have HM2 := hid hm2
                    clear hW2 q1 q2 x1 h0 h1 h2 hwr
                    have x1 := hs2.box 1 _ rfl
                    have hwr : w.heap.size + 1 < W2.heap.size := lt_of_block hs2.row
                    obtain ⟨b3, o3, g3, hA, _, had3, HX3, h0, h1, h2⟩ := (HG.out.keep (Keeps.of_below (D := fun b => b < w.heap.size) hs2.below (fun _ h => h))).get hlt
                    obtain ⟨rfl, rfl⟩ : b = b3 ∧ o = o3 := by
                      injection hA with hA
                      injection hA with e1 e2
                      exact ⟨e1, e2⟩
                    obtain rfl : (⟨k, (XA : Int), (XB : Int)⟩ : Gt) = g3 := HX.out.symm.trans HX3.out
                    simp only at h0 h1 h2
                    obtain ⟨q1, q2⟩ := HS2.out.get (i := XB) (by rw [HM2.out]; exact b1)
                    clear hs2 hm2 hA
                    go_wp2_with fail
                    go_roundw
                    case rel =>
                      have hc := (HCO.out.put a1).put b1
                      refine ⟨j + 1, _, by omega, by go_num, rfl, HS2.out.set XB true, hc.nextg fun x hx => ?_⟩
                      rw [HX.out] at hx
                      rcases hx with ⟨_, hx⟩ | ⟨_, hx⟩
                      · exact setB (by rw [HM2.out]; exact b1) (.inr (setB (by rw [HMKL.out]; exact a1) (.inl (by simpa using hx))))
                      · exact setB (by rw [HM2.out]; exact b1) (.inl (by simpa using hx))
                    case measure => simp [intOf]; omega
                  by_cases k5 : g.k = 5
                  · have e4 : (g.k == 4) = false := beq_eq_false_iff_ne.2 k4
                    have e5 : (g.k == 5) = true := beq_iff_eq.2 k5
                    rw [if_neg (by omega), if_neg (by omega), if_neg (by omega), if_neg k4, if_pos k5] at hgb
                    simp only [Bool.and_eq_true, decide_eq_true_eq] at hgb
                    obtain ⟨k, ga, gb⟩ := g
                    obtain ⟨XA, rfl⟩ : ∃ X : Nat, ga = X := ⟨ga.toNat, by have := hgb.1.1; simp only at this; omega⟩
                    simp only at hgb h0 h1 h2 e4 e5 k4
                    have a1 : XA < c.gates.length := by omega
                    have a2 : (XA : Int) < c.gates.length := by omega
                    have HK4 := hid k4
                    obtain ⟨q1, q2⟩ := HSE.out.get (i := XA) (by rw [HMKL.out]; exact a1)
                    clear hgb k4 k5
                    go_wp2_with fail
                    go_roundw
                    case rel =>
                      refine ⟨j + 1, _, by omega, by go_num, rfl, HSE.out.set XA true, (HCO.out.put a1).nextg fun x hx => ?_⟩
                      rw [HX.out] at hx
                      rcases hx with ⟨_, hx⟩ | ⟨hk, _⟩
                      · exact setB (by rw [HMKL.out]; exact a1) (.inl (by simpa using hx))
                      · exact absurd hk HK4.out
                    case measure => simp [intOf]; omega
                  · have e4 : (g.k == 4) = false := beq_eq_false_iff_ne.2 k4
                    have e5 : (g.k == 5) = false := beq_eq_false_iff_ne.2 k5
                    have HK4 := hid k4
                    have HK5 := hid k5
                    clear hgb k4 k5
                    go_wp2_with fail
                    go_roundw
                    case rel =>
                      refine ⟨j + 1, _, by omega, by go_num, rfl, HSE.out, HCO.out.nextg fun x hx => ?_⟩
                      rw [HX.out] at hx
                      rcases hx with ⟨h1 | h1, _⟩ | ⟨h1, _⟩
                      · exact absurd h1 HK4.out
                      · exact absurd h1 HK5.out
                      · exact absurd h1 HK4.out
                    case measure => simp [intOf]; omega
            · obtain rfl : i = c.gates.length := by omega
              have HALL := hid (fun k (hk : k < c.gates.length) => HCO.out.all HSH.out hk)
              go_wp2_with fail
              go_loopw [2, 8] (fun r t wr => ∃ (k : Nat), k ≤ c.gates.length ∧ t = .int .i64 k ∧ r = .bool false ∧ Seen w wr #[.int .i64 c.ib, .slice Ag c.gates.length cg, .slice Al c.lat.length cl, .slice Ao c.outs.length co] mk) (fun _ t _ => c.gates.length - (intOf t).toNat)
              case atStart => exact ⟨0, Nat.zero_le _, rfl, rfl, HSE.out⟩
              case round =>
                obtain ⟨k, hk, rfl, rfl, hse⟩ := hrel
                have HSE := hid hse
                have hwr : w.heap.size + 1 < wr.heap.size := lt_of_block hse.row
                clear hse
                by_cases hlt : k < c.gates.length
                · obtain ⟨q1, q2⟩ := HSE.out.get (i := k) (by rw [HMKL.out]; exact hlt)
                  rw [HALL.out k hlt] at q1
                  have hki : (k : Int) < c.gates.length := by omega
                  go_wp2_with fail
                  go_roundw
                  case rel => exact ⟨k + 1, by omega, by go_num, rfl, HSE.out⟩
                  case measure => simp [intOf]; omega
                · go_wp2_with fail
                  go_ret
                  exact ⟨rfl, HSE.out.below⟩
end Go.Proofs.Ytfabdpnjjondaaa
