/-
  Walk: Run of controllers.
-/
import Derived.Test.YtfabdpnjjondaaaH1
import Derived.Test.YtfabdpnjjondaaaP12
set_option linter.unusedVariables false
set_option linter.unusedSimpArgs false
namespace Go.Proofs.Ytfabdpnjjondaaa
open Go.RowKit
attribute [local go_sem] cell_alloc_old

theorem RdII.one {w : World} {b : Nat} {A : Option Addr} {c : Nat} {r : List Int} (hc : w.cell? ⟨b, 0, none⟩ = some (.slice A r.length c)) (h : RdI w (fun _ => True) A c r) : RdII w (fun _ => True) (some ⟨b, 0, none⟩) 1 [r] :=
  ⟨[.slice A r.length c], Rd.cell1 hc, fun i hi => by
    have : i = 0 := by simpa using hi
    subst this
    exact ⟨A, c, rfl, h⟩⟩
theorem mState {m : Mly} {ins : List Int} {k : Nat} : mSt m m.start ins (k + 1) = (m.next.getD (mSt m m.start ins k).toNat []).getD (ins.getD k 0).toNat 0 := rfl
/-- The outputs of the first k inputs are written. -/
structure MRel (m : Mly) (s : Int) (ins : List Int) (w : World) (ob k : Nat) (wr : World) : Prop where
  below : Below w.heap.size w wr
  out : ∃ ys : List Int, ys.length = ins.length ∧ ys.take k = mOuts m s ins k ∧ wr.ownsRow 0 3 1 (.slice (some ⟨ob, 0, none⟩) ins.length ins.length) ins.length (ys.map (.int .i64))
theorem MRel.next {m : Mly} {s : Int} {ins : List Int} {w wr : World} {ob k : Nat} (h : MRel m s ins w ob k wr) (hk : k < ins.length) (ho : w.heap.size ≤ ob) {y : Int} (hy : (m.out.getD (mSt m s ins k).toNat []).getD (ins.getD k 0).toNat 0 = y) :
    MRel m s ins w ob (k + 1) (wr.setCell ⟨ob, k, none⟩ (.int .i64 y)) := by
  obtain ⟨ys, h1, h2, h3⟩ := h.out
  have h5 := h3.stored k (.int .i64 y)
  refine ⟨h.below.setCell (p := ⟨ob, k, none⟩) ho _, ys.set k y, by simpa using h1, ?_, ?_⟩
  · rw [mOuts, ← h2, hy]
    have hk' : k < (ys.set k y).length := by simpa [h1] using hk
    rw [List.take_succ_eq_append_getElem hk', List.take_set_of_le (Nat.le_refl k)]
    simp
  · rw [List.map_set]; exact h5.1

set_option maxHeartbeats 4000000 in
theorem mrun_any {D E : Dom} (v : Value) (m : Mly) (s : Int) (A : Option Addr) (ca : Nat) (ins : List Int) (w : World) (h : RdM w D v m) (hins : RdI w E A ca ins) (hm : mealyB m = true) (s0 : 0 ≤ s) (s1 : s < m.out.length) (hb : belowB m.ins ins = true) (hmil : ins.length ≤ 1000000) :
    Calls Try.prog 26 #[v, .int .i64 s, .slice A ins.length ca] w fun e w' =>
      ∃ A' c', e = .returned (.tuple #[.slice A' ins.length c', .int .i64 (mSt m s ins ins.length)]) ∧ Below w.heap.size w w' ∧ RdI w' (fun b => w.heap.size ≤ b) A' c' (mOuts m s ins ins.length) := by
  obtain ⟨i0, hi, hz0, hz1, hz2⟩ := info_parts int_info
  have HV := hid h.old
  have HI := hid hins.old
  have hni := hins.len.1
  have hSz := hid (sized_of hm)
  obtain ⟨Ao, co, An, cn, rfl, ho, hn⟩ := h
  have hlo := ho.len.1
  have hln := hn.len.1
  have HO := hid ho.old
  have HN := hid hn.old
  clear ho hn hins
  have HM := hid hm
  have HB0 := hid hb
  have hin : Hid (∀ j, j < ins.length → 0 ≤ ins.getD j 0 ∧ ins.getD j 0 < m.ins) := hid fun j hj => by
    have := allN_true.1 hb j hj
    simpa only [Bool.and_eq_true, decide_eq_true_eq] using this
  have hnn := hSz.out.nn
  have HNN := hid hnn
  clear hm hb hnn
  have hmk := run_make_zrow (P := Try.prog) 23 3 i0 (.int .i64 0) 8 Try.underlying23 hi hz0 hz1 hz2 rfl .i64 .i64 ins.length (by omega) (by omega)
  go_enter Try.func26, Try.ntmps26
  go_wp2_with fail
  refine (mvalid_any _ m _ (HV.out.keep ((Keeps.refl _ w).alloc _))).mono ?_
  rintro e w1 ⟨rfl, hb1⟩
  rw [HM.out]
  have hbx : Box w1 w.heap.size #[.int .i64 m.ins, .int .i64 m.outs, .int .i64 m.start, .slice Ao m.out.length co, .slice An m.next.length cn] := (Box.new _ _ _ rfl).below hb1 (Nat.le_refl _)
  have HBX := hid hbx
  have hbw : Below w.heap.size w w1 := ((Below.refl _ _).alloc (Nat.le_refl _) _).trans (hb1.mono (by simp))
  have x0 := hbx 0 _ rfl
  have x1 := hbx 1 _ rfl
  have x2 := hbx 2 _ rfl
  have x3 := hbx 3 _ rfl
  have x4 := hbx 4 _ rfl
  have hw1 : w.heap.size < w1.heap.size := World.block_lt_of_cell? w1 _ x0
  have HBW := hid hbw
  clear hbx hb1 hbw
  go_wp2_with fail
  have hrow : Hid (rowsB (ins.length : Int) m.ins [ins] = true) := hid (by
    unfold rowsB
    refine allN_of fun j hj => ?_
    have : j = 0 := by simpa using hj
    subst this
    show rowB _ _ ins = true
    unfold rowB
    rw [HB0.out]; simp)
  refine (rows_any (D := fun _ => True) (ins.length : Int) m.ins _ _ [ins] _ (RdII.one (cell_new w1 _ _ _ _ _ rfl rfl) ((HI.out.keep ((Keeps.of_below HBW.out (fun _ h => h)).alloc _)).mono (fun _ _ _ => trivial)))).mono ?_
  rintro e w2 ⟨rfl, rfl⟩
  rw [hrow.out]
  go_wp2_with fail
  obtain ⟨W, hW⟩ : ∃ W, W = w1.alloc (.cells #[.slice A ins.length ca] 23) := ⟨_, rfl⟩
  have hbW : Below w.heap.size w W := by rw [hW]; exact HBW.out.alloc HBW.out.size _
  have hbxW : Box W w.heap.size #[.int .i64 m.ins, .int .i64 m.outs, .int .i64 m.start, .slice Ao m.out.length co, .slice An m.next.length cn] := by rw [hW]; exact HBX.out.alloc _
  have HWS : Hid (W.heap.size = w1.heap.size + 1) := hid (by rw [hW]; simp)
  rw [← hW]
  have HBX := hid hbxW
  have hwW : w.heap.size < w1.heap.size + 1 := by omega
  have hbW2 : w.heap.size ≤ w1.heap.size + 1 := by omega
  clear hW x0 x1 x2 x3 x4 hw1 hbxW
  go_loopw [1, 9, 10, 40] (fun q _ _ t wr => ∃ k : Nat, k ≤ ins.length ∧ t = .int .i64 k ∧ q = .int .i64 (mSt m s ins k) ∧ MRel m s ins w (w1.heap.size + 1) k wr ∧ w1.heap.size + 1 < wr.heap.size ∧
        Box wr w.heap.size #[.int .i64 m.ins, .int .i64 m.outs, .int .i64 m.start, .slice Ao m.out.length co, .slice An m.next.length cn]) (fun _ _ _ t _ => ins.length - (intOf t).toNat)
  case atStart =>
    refine ⟨0, Nat.zero_le _, rfl, rfl, ⟨hbW.alloc hbW.size _, List.replicate ins.length 0, by simp, by simp [mOuts], ?_⟩, by have := HWS.out; simp; omega, HBX.out.alloc _⟩
    rw [List.map_replicate, ← HWS.out]; exact own_zrow W 0 _ _ _ (Nat.zero_le _) (maxLen_le (by omega))
  case round =>
    obtain ⟨k, hk, rfl, rfl, hrel, hsz, hbox⟩ := hrel
    have HR := hid hrel
    have HB := hid hbox
    have x0 := hbox 0 _ rfl
    have x1 := hbox 1 _ rfl
    have x2 := hbox 2 _ rfl
    have x3 := hbox 3 _ rfl
    have x4 := hbox 4 _ rfl
    have hwr : w.heap.size < wr.heap.size := by omega
    have hrng := mSt_range hSz.out s0 s1 hin.out k hk
    obtain ⟨q, hq⟩ : ∃ q, mSt m s ins k = q := ⟨_, rfl⟩
    rw [hq] at hrng ⊢
    obtain ⟨Q, rfl⟩ : ∃ Q : Nat, q = Q := ⟨q.toNat, by omega⟩
    have HQ := hid hq
    clear hrel hbox hq
    by_cases hlt : k < ins.length
    · obtain ⟨b, o, x, rfl, _, had, HX, hc⟩ := (HI.out.keep (Keeps.of_below HR.out.below fun _ h => h)).get hlt
      obtain ⟨ys, hyl, _, hyo⟩ := HR.out.out
      have hxr := hin.out k hlt
      rw [HX.out] at hxr
      obtain ⟨X, rfl⟩ : ∃ X : Nat, x = X := ⟨x.toNat, by omega⟩
      have hQ1 : Q < m.out.length := by omega
      have hQ2 : Q < m.next.length := by rw [HNN.out]; omega
      have hQi : (Q : Int) < m.next.length := by omega
      obtain ⟨b2, o2, A2, c2, r2, rfl, _, had2, HX2, hr2, hc2⟩ := (HO.out.keep (Keeps.of_below HR.out.below fun _ h => h)).get hQ1
      obtain ⟨b3, o3, A3, c3, r3, rfl, _, had3, HX3, hr3, hc3⟩ := (HN.out.keep (Keeps.of_below HR.out.below fun _ h => h)).get hQ2
      have e2 := (hSz.out.outr Q X hQ1 hxr.2).1
      have e3 := (hSz.out.nextr Q X hQ1 hxr.2).1
      rw [HX2.out] at e2
      rw [HX3.out] at e3
      have hX2 : X < r2.length := by omega
      have hX3 : X < r3.length := by omega
      obtain ⟨b4, o4, y, rfl, _, had4, HY, hc4⟩ := hr2.get hX2
      obtain ⟨b5, o5, z, rfl, _, had5, HZ, hc5⟩ := hr3.get hX3
      have hcell : wr.cell? ⟨w1.heap.size + 1, k, none⟩ = some (.int .i64 (ys.getD k 0)) := by
        rw [hyo.cellAt k (by omega)]; simp [hyl, hlt]
      have hfro : wr.frozen? ⟨w1.heap.size + 1, k, none⟩ = false := hyo.frozenAt k
      have hQi2 : (Q : Int) < m.out.length := by omega
      have hXi2 : (X : Int) < r2.length := by omega
      have hXi3 : (X : Int) < r3.length := by omega
      have hki : (k : Int) < ins.length := by omega
      have hr2l := hr2.len.1
      have hr3l := hr3.len.1
      clear hr2 hr3 e2 e3 hyo hyl
      go_wp2_with fail
      go_roundw
      case rel =>
        have hn := HR.out.next hlt (ho := by omega) (y := y) (by rw [HQ.out, HX.out, Int.toNat_natCast, Int.toNat_natCast, HX2.out, HY.out])
        exact ⟨k + 1, by omega, by go_num, by rw [mSt, HQ.out, HX.out, Int.toNat_natCast, Int.toNat_natCast, HX3.out, HZ.out], hn, by simp; omega, HB.out.set (by simp; omega) _⟩
      case measure => simp [intOf]; omega
    · obtain rfl : k = ins.length := by omega
      obtain ⟨ys, hyl, hyt, hyo⟩ := HR.out.out
      have hys : ys = mOuts m s ins ins.length := by rw [← hyt, List.take_of_length_le (by omega)]
      rw [hys] at hyo
      have HYO := hid hyo
      clear hyl hyt hyo hys
      go_wp2_with fail
      refine bodyPost_ret (v := .tuple #[.slice (some ⟨w1.heap.size + 1, 0, none⟩) ins.length ins.length, .int .i64 (Q : Int)]) (by simp [results, Try.results26, go_sem]) rfl ?_
      refine ⟨some ⟨w1.heap.size + 1, 0, none⟩, ins.length, by rw [HQ.out], HR.out.below, ?_⟩
      have hh := HYO.out
      unfold RdI
      rw [mOuts_len]
      exact (Rd.own (base := 0) (D := fun _ => True) hh hni (fun _ _ => trivial)).2 |> fun h2 => ⟨⟨by simp [mOuts_len], hni, Nat.le_refl _, by omega⟩, fun hp => by
        obtain ⟨b, o, e1, _, e3, e4⟩ := h2 hp
        injection e1 with e1
        injection e1 with e1 e1'
        subst e1 e1'
        exact ⟨_, _, rfl, by omega, e3, e4⟩⟩
end Go.Proofs.Ytfabdpnjjondaaa
