/-
  Walks: the values of all gates, in the reference; Step in both.
-/
import Derived.Test.YtfabdpnjjondaaaA8
set_option linter.unusedVariables false
set_option linter.unusedSimpArgs false
namespace Go.Proofs.Ytfabdpnjjondaaa
open Go.RowKit
attribute [local go_sem] cell_alloc_old

theorem bit_int (n i : Int) (w : World) (hn : 0 ≤ n) (hn2 : n ≤ 9223372036854775807) (h0 : 0 ≤ i) (hi : i ≤ 62) :
    Calls Try.prog 46 #[.int .i64 n, .int .i64 i] w fun e w' => e = .returned (.int .i64 (bitZ n i.toNat)) ∧ w' = w := by
  obtain ⟨j, rfl⟩ := Int.eq_ofNat_of_zero_le h0
  exact bit_any n j w hn hn2 (by omega)

structure ValRel (c : Cir) (lat inp : Int) (w : World) (k : Nat) (v : Value) (wr : World) : Prop where
  below : Below w.heap.size w wr
  own : wr.ownsRow (w.heap.size + 1) 3 1 v k ((valsTo c.gates lat inp k).map (.int .i64))

theorem ValRel.next {c : Cir} {lat inp : Int} {w wr w1 w2 : World} {k : Nat} {A A1 : Option Addr} {c0 c1 : Nat} {val : Int} {g : Gt} (hb : Below w.heap.size w wr)
    (hw : Below wr.heap.size wr w1) (hown : wr.ownsRow (w.heap.size + 1) 3 1 (.slice A k c0) k ((valsTo c.gates lat inp k).map (.int .i64))) (hown2 : w2.ownsRow (w.heap.size + 1) 3 1 (.slice A1 (k + 1) c1) (k + 1) ((valsTo c.gates lat inp k).map (.int .i64) ++ [.int .i64 val]))
    (hg : w1.grownBy w2 (Value.slice A k c0).ownBlock) (hgk : c.gates.getD k default = g) (hval : val = valOf lat inp (valsTo c.gates lat inp k) g) : ValRel c lat inp w (k + 1) (.slice A1 (k + 1) c1) w2 := by
  refine ⟨(hb.trans (hw.mono hb.size)).grown hg (Nat.le_trans hb.size hw.size) (fun j hj => ?_), ?_⟩
  · have := (hown.lt j hj).1; omega
  · rw [valsTo, hgk, ← hval, List.map_append]
    exact hown2

set_option maxHeartbeats 4000000 in
theorem values_any {D : Dom} (v : Value) (c : Cir) (lat inp : Int) (w : World) (h : RdC w D v c) (hv : validB c = true) (hf : fitsB c lat inp = true) :
    Calls Try.prog 31 #[v, .int .i64 lat, .int .i64 inp] w fun e w' =>
      ∃ A c', e = .returned (.slice A (valsZ c lat inp).length c') ∧ Below w.heap.size w w' ∧ RdI w' (fun b => w.heap.size < b) A c' (valsZ c lat inp) := by
  obtain ⟨i0, hi, hz0, hz1, hz2⟩ := info_parts int_info
  have hz2' : i0.bytes = 8 := hz2
  obtain ⟨Ag, cg, Al, cl, Ao, co, rfl, hg, hl, ho⟩ := h
  have HG := hid hg.old
  have hn := hg.len.1
  simp only [validB, fitsB, Bool.and_eq_true, decide_eq_true_eq] at hv hf
  obtain ⟨⟨⟨⟨⟨⟨⟨h1, h2⟩, h3⟩, h4⟩, h5⟩, h6⟩, h7⟩, h8⟩ := hv
  obtain ⟨⟨⟨f1, f2⟩, f3⟩, f4⟩ := hf
  have h6' := hid (allN_true.1 h6)
  have hlt : lat ≤ 9223372036854775807 := by have := pow2_lt (n := c.lat.length) (by omega); omega
  have hit : inp ≤ 9223372036854775807 := by have := pow2_lt (n := c.ib.toNat) (by omega); omega
  clear hg hl ho h6 h7 h8 f2 f4
  go_enter Try.func31, Try.ntmps31
  go_wp2_with fail
  go_loopw [7, 8] (fun o t wr => ∃ (k : Nat) (A : Option Addr) (c0 : Nat), k ≤ c.gates.length ∧ t = .int .i64 k ∧ o = .slice A k c0 ∧ ValRel c lat inp w k o wr ∧
      Box wr w.heap.size #[.int .i64 c.ib, .slice Ag c.gates.length cg, .slice Al c.lat.length cl, .slice Ao c.outs.length co]) (fun _ t _ => c.gates.length - (intOf t).toNat)
  case atStart => exact ⟨0, some ⟨w.heap.size + 1, 0, none⟩, 0, Nat.zero_le _, rfl, rfl, ⟨by go_grown, by simpa [valsTo] using World.ownsRow_lit (base := w.heap.size + 1) (e := 3) (size := 1) (w.alloc _) #[] 0 (by simp) (Nat.zero_le _) (by simp)⟩, (Box.new _ _ _ rfl).alloc _⟩
  case round =>
    obtain ⟨k, A, c0, hk, rfl, rfl, hrel, hbox⟩ := hrel
    have HR := hid hrel
    have HB := hid hbox
    have x0 := hbox 0 _ rfl
    have x1 := hbox 1 _ rfl
    have x2 := hbox 2 _ rfl
    have x3 := hbox 3 _ rfl
    have hwl : w.heap.size < wr.heap.size := World.block_lt_of_cell? wr _ x0
    clear hrel hbox
    by_cases hlk : k < c.gates.length
    · obtain ⟨b, o, g, rfl, _, had, HX, g0, g1, g2⟩ := (HG.out.keep (Keeps.of_below HR.out.below fun _ h => h)).get hlk
      have hgate := h6'.out k hlk
      rw [HX.out] at hgate
      have HK1 := hid hgate
      have hi1 : (k : Int) < c.gates.length := by omega
      have vcell : Hid (∀ j, j < k → ∃ b', A = some ⟨b', 0, none⟩ ∧ b' < wr.heap.size ∧ w.heap.size < b' ∧ wr.cell? ⟨b', j, none⟩ = some (.int .i64 ((valsTo c.gates lat inp k).getD j 0))) := hid fun j hj => by
        have hr : RdI wr (fun b => w.heap.size < b) A c0 (valsTo c.gates lat inp k) := by
          unfold RdI; rw [valsTo_len]; exact Rd.own HR.out.own (by omega) (fun g hg => by omega)
        rcases HR.out.own.2 with ⟨_, h0⟩ | ⟨g', cap, cur, hv, hg', hh, _⟩
        · omega
        · injection hv with e1
          obtain ⟨b2, o2, x, e2, hb2, hl2, HX2, hc2⟩ := hr.get (k := j) (by rw [valsTo_len]; exact hj)
          rw [e1] at e2
          injection e2 with e2
          injection e2 with e3 e4
          subst e3 e4
          refine ⟨g', e1, hl2, hb2, ?_⟩
          rw [HX2.out]; simpa using hc2
      clear hgate
      have hcase : (∃ val, val = valOf lat inp (valsTo c.gates lat inp k) g) := ⟨_, rfl⟩
      by_cases k4 : g.k = 4
      · have hg := HK1.out
        simp only [gateB, k4, Bool.and_eq_true, decide_eq_true_eq] at hg
        simp at hg
        obtain ⟨⟨hg1, hg2⟩, hg3⟩ := hg
        have e2 : (g.k == 2) = false := by simp [k4]
        have e3 : (g.k == 3) = false := by simp [k4]
        have e4 : (g.k == 4) = true := by simp [k4]
        obtain ⟨b', hA, hb1, hb2, hca⟩ := vcell.out g.a.toNat (by omega)
        obtain ⟨b'', hA', _, _, hcb⟩ := vcell.out g.b.toNat (by omega)
        rw [hA] at hA'
        injection hA' with hA'
        injection hA' with hA'
        subst hA' hA
        have e01 := valsTo_01 c.gates lat inp k g.a.toNat
        have e02 := valsTo_01 c.gates lat inp k g.b.toNat
        obtain ⟨va, hva⟩ : ∃ z, z = (valsTo c.gates lat inp k).getD g.a.toNat 0 := ⟨_, rfl⟩
        obtain ⟨vb, hvb⟩ : ∃ z, z = (valsTo c.gates lat inp k).getD g.b.toNat 0 := ⟨_, rfl⟩
        rw [← hva] at hca e01
        rw [← hvb] at hcb e02
        have hp0 : 0 ≤ va * vb := by rcases e01 with e | e <;> rcases e02 with e' | e' <;> rw [e, e'] <;> simp
        have hp1 : va * vb ≤ 1 := by rcases e01 with e | e <;> rcases e02 with e' | e' <;> rw [e, e'] <;> simp
        have HVAL : Hid (va * vb = valOf lat inp (valsTo c.gates lat inp k) g) := hid (by unfold valOf; simp [k4, hva, hvb])
        have hga1 : g.a < k := by omega
        have hgb0 : 0 ≤ g.b := by omega
        clear k4 hva hvb e01 e02
        go_wp2_with fail
        go_quiet (fail)
        go_upto_region 16 with (fail)
        refine wp_gen fun W hW => ?_
        have hbW : Below wr.heap.size wr W := by rw [hW]; exact below_drewN ((Below.refl _ _).alloc (Nat.le_refl _) _) _
        have HBW := hid hbW
        have HOW := hid (own_below HR.out.own hbW)
        have hsz := hbW.size
        have HBX := hid (HB.out.below hbW (Nat.le_refl _))
        have HLT := hid HR.out.own.lt
        clear hW hbW
        go_wp2_with (at_builtin; refine wpList_append_rd _ rfl (.tmp 59) (.tmp 61) 23 rfl (w.heap.size + 1) 3 i0 _ 1 8 Try.underlying23 hi hz0 hz1 hz2 rfl (by omega) (.slice (some ⟨b', 0, none⟩) k c0) k _ rfl (HOW.out.alloc _) _ (some ⟨W.heap.size, 0, none⟩) 1 1 _ rfl (Rd.cell1 (cell_new W _ _ _ _ _ rfl rfl)) (by simp [Value.oneCell']) (by omega) (maxLen_le (by omega)) (by simp; omega) ?_; intro A1 c1 w1 hown1 hg1 hat1)
        go_roundw
        case rel => exact ⟨k + 1, A1, c1, by omega, by go_num, rfl, ValRel.next HR.out.below (HBW.out.alloc hsz _) HR.out.own hown1 hg1 HX.out HVAL.out, (HBX.out.alloc _).grown hg1 (by intro e; have := (HLT.out _ e.symm).1; omega)⟩
        case measure => simp [intOf]; omega
      by_cases k2 : g.k = 2
      · have hg := HK1.out
        simp only [gateB, k2, Bool.and_eq_true, decide_eq_true_eq] at hg
        simp at hg
        obtain ⟨⟨hg1, hg2⟩, hg3⟩ := hg
        have e2 : (g.k == 2) = true := by simp [k2]
        have e3 : (g.k == 3) = false := by simp [k2]
        have e4 : (g.k == 4) = false := by simp [k2]
        have e5 : (g.k == 5) = false := by simp [k2]
        have HVAL : Hid (bitZ inp g.a.toNat = valOf lat inp (valsTo c.gates lat inp k) g) := hid (by unfold valOf; simp [k2])
        clear k4 k2 hg3
        go_upto_region 16 with (go_at_call 46; refine (bit_int _ _ _ (by omega) (by omega) (by omega) (by omega)).mono ?_; rintro e w' ⟨rfl, rfl⟩)
        refine wp_gen fun W hW => ?_
        have hbW : Below wr.heap.size wr W := by rw [hW]; exact (Below.refl _ _).alloc (Nat.le_refl _) _
        have HBW := hid hbW
        have HOW := hid (own_below HR.out.own hbW)
        have hsz := hbW.size
        have HBX := hid (HB.out.below hbW (Nat.le_refl _))
        have HLT := hid HR.out.own.lt
        clear hW hbW
        go_wp2_with (at_builtin; refine wpList_append_rd _ rfl (.tmp 59) (.tmp 61) 23 rfl (w.heap.size + 1) 3 i0 _ 1 8 Try.underlying23 hi hz0 hz1 hz2 rfl (by omega) (.slice A k c0) k _ rfl (HOW.out.alloc _) _ (some ⟨W.heap.size, 0, none⟩) 1 1 _ rfl (Rd.cell1 (cell_new W _ _ _ _ _ rfl rfl)) (by simp [Value.oneCell']) (by omega) (maxLen_le (by omega)) (by simp; omega) ?_; intro A1 c1 w1 hown1 hg1 hat1)
        go_roundw
        case rel => exact ⟨k + 1, A1, c1, by omega, by go_num, rfl, ValRel.next HR.out.below (HBW.out.alloc hsz _) HR.out.own hown1 hg1 HX.out HVAL.out, (HBX.out.alloc _).grown hg1 (by intro e; have := (HLT.out _ e.symm).1; omega)⟩
        case measure => simp [intOf]; omega
      by_cases k3 : g.k = 3
      · have hg := HK1.out
        simp only [gateB, k3, Bool.and_eq_true, decide_eq_true_eq] at hg
        simp at hg
        obtain ⟨⟨hg1, hg2⟩, hg3⟩ := hg
        have e2 : (g.k == 2) = false := by simp [k3]
        have e3 : (g.k == 3) = true := by simp [k3]
        have e4 : (g.k == 4) = false := by simp [k3]
        have e5 : (g.k == 5) = false := by simp [k3]
        have HVAL : Hid (bitZ lat g.a.toNat = valOf lat inp (valsTo c.gates lat inp k) g) := hid (by unfold valOf; simp [k3])
        clear k4 k3 hg3
        go_upto_region 16 with (go_at_call 46; refine (bit_int _ _ _ (by omega) (by omega) (by omega) (by omega)).mono ?_; rintro e w' ⟨rfl, rfl⟩)
        refine wp_gen fun W hW => ?_
        have hbW : Below wr.heap.size wr W := by rw [hW]; exact (Below.refl _ _).alloc (Nat.le_refl _) _
        have HBW := hid hbW
        have HOW := hid (own_below HR.out.own hbW)
        have hsz := hbW.size
        have HBX := hid (HB.out.below hbW (Nat.le_refl _))
        have HLT := hid HR.out.own.lt
        clear hW hbW
        go_wp2_with (at_builtin; refine wpList_append_rd _ rfl (.tmp 59) (.tmp 61) 23 rfl (w.heap.size + 1) 3 i0 _ 1 8 Try.underlying23 hi hz0 hz1 hz2 rfl (by omega) (.slice A k c0) k _ rfl (HOW.out.alloc _) _ (some ⟨W.heap.size, 0, none⟩) 1 1 _ rfl (Rd.cell1 (cell_new W _ _ _ _ _ rfl rfl)) (by simp [Value.oneCell']) (by omega) (maxLen_le (by omega)) (by simp; omega) ?_; intro A1 c1 w1 hown1 hg1 hat1)
        go_roundw
        case rel => exact ⟨k + 1, A1, c1, by omega, by go_num, rfl, ValRel.next HR.out.below (HBW.out.alloc hsz _) HR.out.own hown1 hg1 HX.out HVAL.out, (HBX.out.alloc _).grown hg1 (by intro e; have := (HLT.out _ e.symm).1; omega)⟩
        case measure => simp [intOf]; omega
      by_cases k5 : g.k = 5
      · have hg := HK1.out
        simp only [gateB, k5, Bool.and_eq_true, decide_eq_true_eq] at hg
        simp at hg
        obtain ⟨⟨hg1, hg2⟩, hg3⟩ := hg
        have e2 : (g.k == 2) = false := by simp [k5]
        have e3 : (g.k == 3) = false := by simp [k5]
        have e4 : (g.k == 4) = false := by simp [k5]
        have e5 : (g.k == 5) = true := by simp [k5]
        obtain ⟨b', hA, hb1, hb2, hca⟩ := vcell.out g.a.toNat (by omega)
        subst hA
        have e01 := valsTo_01 c.gates lat inp k g.a.toNat
        obtain ⟨va, hva⟩ : ∃ z, z = (valsTo c.gates lat inp k).getD g.a.toNat 0 := ⟨_, rfl⟩
        rw [← hva] at hca e01
        have hva0 : 0 ≤ va := by omega
        have hva1 : va ≤ 1 := by omega
        have HVAL : Hid (1 - va = valOf lat inp (valsTo c.gates lat inp k) g) := hid (by unfold valOf; simp [k5, hva])
        have hga1 : g.a < k := by omega
        clear k4 k2 k3 k5 hg3 hva e01
        go_upto_region 16 with (fail)
        refine wp_gen fun W hW => ?_
        have hbW : Below wr.heap.size wr W := by rw [hW]; exact (Below.refl _ _).alloc (Nat.le_refl _) _
        have HBW := hid hbW
        have HOW := hid (own_below HR.out.own hbW)
        have hsz := hbW.size
        have HBX := hid (HB.out.below hbW (Nat.le_refl _))
        have HLT := hid HR.out.own.lt
        clear hW hbW
        go_wp2_with (at_builtin; refine wpList_append_rd _ rfl (.tmp 59) (.tmp 61) 23 rfl (w.heap.size + 1) 3 i0 _ 1 8 Try.underlying23 hi hz0 hz1 hz2 rfl (by omega) (.slice (some ⟨b', 0, none⟩) k c0) k _ rfl (HOW.out.alloc _) _ (some ⟨W.heap.size, 0, none⟩) 1 1 _ rfl (Rd.cell1 (cell_new W _ _ _ _ _ rfl rfl)) (by simp [Value.oneCell']) (by omega) (maxLen_le (by omega)) (by simp; omega) ?_; intro A1 c1 w1 hown1 hg1 hat1)
        go_roundw
        case rel => exact ⟨k + 1, A1, c1, by omega, by go_num, rfl, ValRel.next HR.out.below (HBW.out.alloc hsz _) HR.out.own hown1 hg1 HX.out HVAL.out, (HBX.out.alloc _).grown hg1 (by intro e; have := (HLT.out _ e.symm).1; omega)⟩
        case measure => simp [intOf]; omega
      · have e2 : (g.k == 2) = false := by simp [k2]
        have e3 : (g.k == 3) = false := by simp [k3]
        have e4 : (g.k == 4) = false := by simp [k4]
        have e5 : (g.k == 5) = false := by simp [k5]
        have HVAL : Hid (0 = valOf lat inp (valsTo c.gates lat inp k) g) := hid (by unfold valOf; simp [k2, k3, k4, k5])
        clear k4 k2 k3 k5
        go_upto_region 16 with (fail)
        refine wp_gen fun W hW => ?_
        have hbW : Below wr.heap.size wr W := by rw [hW]; exact (Below.refl _ _).alloc (Nat.le_refl _) _
        have HBW := hid hbW
        have HOW := hid (own_below HR.out.own hbW)
        have hsz := hbW.size
        have HBX := hid (HB.out.below hbW (Nat.le_refl _))
        have HLT := hid HR.out.own.lt
        clear hW hbW
        go_wp2_with (at_builtin; refine wpList_append_rd _ rfl (.tmp 59) (.tmp 61) 23 rfl (w.heap.size + 1) 3 i0 _ 1 8 Try.underlying23 hi hz0 hz1 hz2 rfl (by omega) (.slice A k c0) k _ rfl (HOW.out.alloc _) _ (some ⟨W.heap.size, 0, none⟩) 1 1 _ rfl (Rd.cell1 (cell_new W _ _ _ _ _ rfl rfl)) (by simp [Value.oneCell']) (by omega) (maxLen_le (by omega)) (by simp; omega) ?_; intro A1 c1 w1 hown1 hg1 hat1)
        go_roundw
        case rel => exact ⟨k + 1, A1, c1, by omega, by go_num, rfl, ValRel.next HR.out.below (HBW.out.alloc hsz _) HR.out.own hown1 hg1 HX.out HVAL.out, (HBX.out.alloc _).grown hg1 (by intro e; have := (HLT.out _ e.symm).1; omega)⟩
        case measure => simp [intOf]; omega
    · obtain rfl : k = c.gates.length := by omega
      have hfin : RdI wr (fun b => w.heap.size < b) A c0 (valsZ c lat inp) := by
        unfold RdI valsZ; rw [valsTo_len]; exact Rd.own HR.out.own (by omega) (fun g hg => by omega)
      have HFIN := hid hfin
      have HLEN : Hid ((valsZ c lat inp).length = c.gates.length) := hid (valsTo_len _ _ _ _)
      clear hfin
      go_wp2_with fail
      go_ret
      exact ⟨A, c0, ret_sl HLEN.out.symm, HR.out.below, HFIN.out⟩
end Go.Proofs.Ytfabdpnjjondaaa
