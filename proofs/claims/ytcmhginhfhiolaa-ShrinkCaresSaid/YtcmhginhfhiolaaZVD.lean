/-
  Walk of the law on moves that matter.
-/
import Derived.Test.YtcmhginhfhiolaaZ35
set_option linter.unusedVariables false
set_option linter.unusedSimpArgs false
namespace Go.Proofs.Ytcmhginhfhiolaa
open Go.RowKit
attribute [local go_sem] cell_alloc_old

def caredZ (m : Mly) (bits l : List Int) (j : Nat) : Bool := ((shapedZ m bits).getD (mSt m m.start l j).toNat []).getD (l.getD j 0).toNat false
theorem below_in {n : Int} {l : List Int} (h : belowB n l = true) : ∀ k, k < l.length → 0 ≤ l.getD k 0 ∧ l.getD k 0 < n := fun k hk => by
  have := allN_true.1 h k hk
  rw [Bool.and_eq_true, decide_eq_true_eq, decide_eq_true_eq] at this
  exact this
theorem take_getD {l : List Int} {n k : Nat} (hk : k < n) : (l.take n).getD k 0 = l.getD k 0 := by
  simp only [List.getD, List.getElem?_take, if_pos hk]
theorem below_take {n : Int} {l : List Int} (h : belowB n l = true) {k : Nat} (hk : k ≤ l.length) : belowB n (l.take k) = true := allN_true.2 fun j hj => by
  rw [List.length_take] at hj
  rw [take_getD (by omega)]
  exact allN_true.1 h j (by omega)
theorem mSt_take (m : Mly) (s : Int) (l : List Int) {n : Nat} (hn : n ≤ l.length) : ∀ k, k ≤ n → mSt m s (l.take n) k = mSt m s l k
  | 0, _ => rfl
  | k + 1, hk => by
    show (m.next.getD (mSt m s (l.take n) k).toNat []).getD ((l.take n).getD k 0).toNat 0 = (m.next.getD (mSt m s l k).toNat []).getD (l.getD k 0).toNat 0
    rw [mSt_take m s l hn k (by omega), take_getD (by omega)]
theorem mOuts_take (m : Mly) (s : Int) (l : List Int) {n : Nat} (hn : n ≤ l.length) : ∀ k, k ≤ n → mOuts m s (l.take n) k = mOuts m s l k
  | 0, _ => rfl
  | k + 1, hk => by
    show mOuts m s (l.take n) k ++ [(m.out.getD (mSt m s (l.take n) k).toNat []).getD ((l.take n).getD k 0).toNat 0] = mOuts m s l k ++ [(m.out.getD (mSt m s l k).toNat []).getD (l.getD k 0).toNat 0]
    rw [mOuts_take m s l hn k (by omega), mSt_take m s l hn k (by omega), take_getD (by omega)]
theorem shaped_row {m : Mly} (bits : List Int) {q : Nat} (hq : q < m.out.length) : ((shapedZ m bits).getD q []).length = m.ins.toNat := by
  have e : (shapedZ m bits).getD q [] = (List.range m.ins.toNat).map (shB bits m.ins.toNat q) := by simp [shapedZ, List.getD, hq]
  rw [e, List.length_map, List.length_range]
theorem RdM.nextRows {w : World} {D : Dom} {m : Mly} {i0 i1 i2 : Value} {Ao An : Option Addr} {n co k cn : Nat} (h : RdM w D (.agg #[i0, i1, i2, .slice Ao n co, .slice An k cn]) m) : RdII w D An cn m.next := by
  obtain ⟨Ao', co', An', cn', e, ho, hn⟩ := h
  injection e with e
  injection e with e
  simp only [List.cons.injEq, and_true] at e
  obtain ⟨_, _, _, _, e4⟩ := e
  injection e4 with e5 e6 e7
  rw [e5, e7]
  exact hn
/-- Up to the first move that does not matter, the loose controller has the same outputs. -/
theorem care_run {m Z : Mly} {bits l : List Int} (hS : Sized m) (h : IsQuo (posM (careM m (shapedZ m bits))) (final (posM (careM m (shapedZ m bits)))) Z) (hb : belowB m.ins l = true) {k : Nat} (hall : ∀ j, j < k → caredZ m bits l j = true) (hk : k ≤ l.length) : mOuts m m.start l k = mOuts Z Z.start l k := by
  obtain ⟨R, hF, h0, _⟩ := quo_fol (care_ok hS (shapedZ m bits)) h
  have hz : Z.start = 0 := (quo_shape hS h).2.2.1
  refine (fol_run hF (s := m.start) (s' := Z.start) (by rw [hz]; exact h0) k fun j hj => ⟨?_, ?_⟩).1
  · have := below_in hb j (by omega)
    show (l.getD j 0).toNat < m.ins.toNat
    omega
  · have := hall j hj
    unfold caredZ at this
    show (if ((shapedZ m bits).getD (mSt m m.start l j).toNat []).getD (l.getD j 0).toNat false = true then _ else _) = _
    rw [if_pos this]; rfl

set_option maxRecDepth 100000 in
set_option maxHeartbeats 8000000 in
theorem law4_any {Dm Ebits Ech : Dom} (w : World) (v : Value) (m : Mly) (A : Option Addr) (c : Nat) (bits : List Int) (B : Option Addr) (d : Nat) (ch : List Int) (hm : RdM w Dm v m) (hbits : RdY w Ebits A c bits) (hch : RdY w Ech B d ch) :
    Calls Try.prog 6 #[v, .slice A bits.length c, .slice B ch.length d] w fun e w' => e = .returned (.bool true) ∧ Below w.heap.size w w' := by
  have HVm := hid hm.old
  have HYbits := hid hbits.old
  have hybits := hbits.len.1
  have HYch := hid hch.old
  have hych := hch.len.1
  obtain ⟨Ao, co, An, cn, rfl, ho, hn⟩ := hm
  clear ho hn
  clear hbits hch
  go_enter Try.func6, Try.ntmps6
  go_upto_region 1 with (fail)
  refine wp_gen fun W hW => ?_
  have hb : Below w.heap.size w W := by rw [hW]; go_grown
  have HMm := hid (show HasM W (w.heap.size) _ m from ⟨by rw [hW]; (repeat (first | (refine at_new _ _ _ ?_; (simp only [World.size_alloc]; done)) | (refine (at_old _ _ _ ?_).trans ?_; (simp only [World.size_alloc]; omega)))), (HVm.out.keep (Keeps.of_below hb (fun _ h => h))).mono fun _ h _ => Nat.lt_of_lt_of_le h hb.size⟩)
  have HBW := hid hb
  clear hW hb
  go_wp2_with fail
  refine (head_any W).mono ?_
  rintro e W1 ⟨rfl, hb⟩
  have HMm := hid (HMm.out.below hb)
  have HBW := hid (HBW.out.trans (hb.mono HBW.out.size))
  clear hb
  obtain ⟨xm0, xm1, xm2, xm3, xm4, xml⟩ := HMm.out.cells
  go_wp2_with fail
  refine (fine_any _ m W1 HMm.out.rd).mono ?_
  rintro e W2 ⟨rfl, hb⟩
  have HMm := hid (HMm.out.below hb)
  have HBW := hid (HBW.out.trans (hb.mono HBW.out.size))
  clear hb
  clear xm0 xm1 xm2 xm3 xm4 xml
  cases hfm : smallB m && mealyB m
  · go_wp2_with fail
    go_ret
    exact ⟨rfl, HBW.out⟩
  rw [Bool.and_eq_true] at hfm
  have HFm := hid hfm
  have hsmm := small_sizes hfm.1
  clear hfm
  obtain ⟨xm0, xm1, xm2, xm3, xm4, xml⟩ := HMm.out.cells
  have hS := sized_of HFm.out.2
  have HSZ := hid hS
  have HCS := hid (shaped_cares hS bits)
  have hsn := hS.n1
  have hsi := hS.i1
  have hsi2 := hS.i2
  clear hS
  have hyb := HYbits.out.keep (Keeps.of_below HBW.out fun _ h => h)
  have HYB := hid (hyb.old)
  clear hyb
  go_wp2_with fail
  refine (shaped_any _ m _ _ bits W2 HMm.out.rd HYB.out (by omega) hsn hsi (by omega)).mono ?_
  rintro e W3 ⟨A3, c3, rfl, hb, hrc⟩
  rw [shaped_len]
  have HMm := hid (HMm.out.below hb)
  have HBW := hid (HBW.out.trans (hb.mono HBW.out.size))
  have HCARE := hid hrc.old
  clear hb hrc
  clear xm0 xm1 xm2 xm3 xm4 xml
  obtain ⟨xm0, xm1, xm2, xm3, xm4, xml⟩ := HMm.out.cells
  have hg := loose_get HFm.out.2 HCS.out HMm.out.rd HCARE.out
  rw [shaped_len] at hg
  have HG := hid hg
  clear hg
  go_wp2_with fail
  refine HG.out.mono ?_
  clear HG
  rintro e W4 ⟨Z, Zo, zo, Zn, zn, rfl, hb, hr, hl⟩
  have HMm := hid (HMm.out.below hb)
  have HCARE := hid (HCARE.out.keep (Keeps.of_below hb (fun _ h => h)) |>.mono fun _ h _ => Nat.lt_of_lt_of_le h hb.size)
  have HBW := hid (HBW.out.trans (hb.mono HBW.out.size))
  have HZ := hid (HasM.new hr)
  have HLZ := hid hl
  clear hb hr hl
  clear xm0 xm1 xm2 xm3 xm4 xml
  go_upto_region 6 with (fail)
  refine wp_gen fun W5 hW5 => ?_
  have hb : Below W4.heap.size W4 W5 := by rw [hW5]; go_grown
  have HZ := hid (show HasM W5 W4.heap.size _ Z by rw [hW5]; exact HZ.out)
  have HMm := hid (HMm.out.below hb)
  have HCARE := hid (HCARE.out.keep (Keeps.of_below hb (fun _ h => h)) |>.mono fun _ h _ => Nat.lt_of_lt_of_le h hb.size)
  have HBW := hid (HBW.out.trans (hb.mono HBW.out.size))
  clear hb hW5
  obtain ⟨xm0, xm1, xm2, xm3, xm4, xml⟩ := HMm.out.cells
  have hyb := HYch.out.keep (Keeps.of_below HBW.out fun _ h => h)
  go_wp2_with fail
  refine (inputs_any _ m _ _ ch W5 HMm.out.rd hyb hsi hsi2).mono ?_
  rintro e W6 ⟨AL, cL, rfl, hb, hr⟩
  obtain ⟨l, hl⟩ : ∃ l, l = inputsZ m ch := ⟨_, rfl⟩
  rw [← hl] at hr ⊢
  have hbl : belowB m.ins l = true := by rw [hl]; exact inputs_below hsi ch
  have hll : l.length ≤ 40 := by rw [hl]; exact inputs_short m ch
  have HMm := hid (HMm.out.below hb)
  have HZ := hid (HZ.out.below hb)
  have HCARE := hid (HCARE.out.keep (Keeps.of_below hb (fun _ h => h)) |>.mono fun _ h _ => Nat.lt_of_lt_of_le h hb.size)
  have HBW := hid (HBW.out.trans (hb.mono HBW.out.size))
  have HLI := hid hr.old
  have HBL := hid hbl
  clear hb hr hl hyb hbl
  clear xm0 xm1 xm2 xm3 xm4 xml
  have hsh := quo_shape HSZ.out HLZ.out
  have HSH := hid hsh
  obtain ⟨q0, hq0⟩ : ∃ q0 : Nat, m.start = (q0 : Int) := ⟨m.start.toNat, by have := HSZ.out.s0; omega⟩
  have hrng : ∀ k, k ≤ l.length → 0 ≤ mSt m m.start l k ∧ mSt m m.start l k < m.out.length := mSt_range HSZ.out HSZ.out.s0 HSZ.out.s1 (below_in HBL.out)
  have HRNG := hid hrng
  clear hsh hrng hq0 q0
  obtain ⟨xm0, xm1, xm2, xm3, xm4, xml⟩ := HMm.out.cells
  go_wp2_with fail
  go_loopw [11, 12] (fun s t wr => ∃ k : Nat, k ≤ l.length ∧ s = .int .i64 (k : Int) ∧ t = .int .i64 (mSt m m.start l k) ∧ (∀ j, j < k → caredZ m bits l j = true) ∧ Drawn W6 wr) (fun s _ _ => l.length - (intOf s).toNat)
  case atStart => exact ⟨0, Nat.zero_le _, rfl, rfl, fun _ h => absurd h (Nat.not_lt_zero _), Drawn.refl _⟩
  case round =>
    obtain ⟨k, hk, rfl, rfl, hall, hd⟩ := hrel
    have hbd := hd.below W6.heap.size
    have HMm := hid (HMm.out.below hbd)
    have HZ := hid (HZ.out.below hbd)
    have HCARE := hid ((HCARE.out.keep (Keeps.of_below hbd (fun _ h => h))).mono fun _ h _ => Nat.lt_of_lt_of_le h hbd.size)
    have HLI := hid ((HLI.out.keep (Keeps.of_below hbd (fun _ h => h))).mono fun _ h _ => Nat.lt_of_lt_of_le h hbd.size)
    have HBW := hid (HBW.out.trans (hbd.mono HBW.out.size))
    have HALL := hid hall
    have HD := hid hd
    clear xm0 xm1 xm2 xm3 xm4 xml
    obtain ⟨xm0, xm1, xm2, xm3, xm4, xml⟩ := HMm.out.cells
    obtain ⟨q, hq⟩ : ∃ q : Nat, mSt m m.start l k = (q : Int) := ⟨(mSt m m.start l k).toNat, by have := (HRNG.out k hk).1; omega⟩
    have hqn : q < m.out.length := by have := (HRNG.out k hk).2; omega
    have HQ := hid hq
    rw [hq]
    clear hall hbd hd hq
    by_cases hlt : k < l.length
    · obtain ⟨b, o, x, rfl, _, hbl, HX, hxc⟩ := HLI.out.get hlt
      have hxr := below_in HBL.out k hlt
      rw [HX.out] at hxr
      obtain ⟨xn, rfl⟩ : ∃ xn : Nat, x = (xn : Int) := ⟨x.toNat, by omega⟩
      have hxn : xn < m.ins.toNat := by omega
      obtain ⟨g, o1, A1, c1, r1, rfl, _, hgl, HR1, hr1, hg1⟩ := HCARE.out.get (show q < (shapedZ m bits).length by rw [shaped_len]; exact hqn)
      have hr1l : r1.length = m.ins.toNat := by rw [← HR1.out]; exact shaped_row bits hqn
      obtain ⟨g2, o2, cb, rfl, _, hgl2, HCB, hg2⟩ := hr1.get (show xn < r1.length by omega)
      have hki : (k : Int) < l.length := by omega
      have hqi : (q : Int) < m.out.length := by omega
      have hxi : (xn : Int) < r1.length := by omega
      have hr1b := hr1.len.1
      have HCRD := hid (show caredZ m bits l k = cb by unfold caredZ; rw [HQ.out, HX.out]; show ((shapedZ m bits).getD q []).getD xn false = cb; rw [HR1.out, HCB.out])
      clear hr1
      cases cb
      · go_wp2_with fail
        go_quiet (fail)
        have hkc : (k : Int) ≤ (cL : Int) := by have := HLI.out.len.2.1; omega
        have hk0 : (0 : Int) ≤ (k : Int) := by omega
        have hkz : k ≤ cL := by omega
        have hx1 := (HLI.out.take hk)
        have HTAKE := hid hx1
        clear hx1
        have HRUN : Hid (∀ W' : World, Below wr.heap.size wr W' → Calls Try.prog 24 #[.agg #[.int .i64 m.ins, .int .i64 m.outs, .int .i64 m.start, .slice Ao m.out.length co, .slice An m.next.length cn], .int .i64 m.start, .slice (some ⟨b, o, none⟩) k cL] W' fun e W'' => ∃ (A' : Option Addr) (c' : Nat) (xs : List Int) (z : Int), e = .returned (.tuple #[.slice A' xs.length c', .int .i64 z]) ∧ Below wr.heap.size wr W'' ∧ RdI W'' (· < W''.heap.size) A' c' xs ∧ Hid (xs = mOuts m m.start l k)) := hid fun W' hb => by
          have hg := run_get HFm.out.2 (HMm.out.below hb).rd (HTAKE.out.keep (Keeps.of_below hb fun _ h => h)) (below_take HBL.out hk) (by rw [List.length_take]; omega)
          rw [List.length_take, Nat.min_eq_left hk, mOuts_take m m.start l hk k (Nat.le_refl _)] at hg
          refine hg.mono ?_
          rintro e W'' ⟨A', c', xs, z, rfl, h1, h2, h3⟩
          exact ⟨A', c', xs, z, rfl, hb.trans (h1.mono hb.size), h2.old, hid h3⟩
        go_upto_region 12 with (fail)
        have HSK : Hid (∀ W' : World, Below wr.heap.size wr W' → W'.cell? ⟨w.heap.size, 0, none⟩ = some (.int .i64 m.ins) ∧ W'.cell? ⟨w.heap.size, 1, none⟩ = some (.int .i64 m.outs) ∧ W'.cell? ⟨w.heap.size, 2, none⟩ = some (.int .i64 m.start) ∧ W'.cell? ⟨w.heap.size, 3, none⟩ = some (.slice Ao m.out.length co) ∧ W'.cell? ⟨w.heap.size, 4, none⟩ = some (.slice An m.next.length cn)) := hid fun W' hb => by
          obtain ⟨xm0, xm1, xm2, xm3, xm4, xml⟩ := (HMm.out.below hb).cells
          exact ⟨xm0, xm1, xm2, xm3, xm4⟩
        have HI1 := hid (show Below wr.heap.size wr wr.drew from (Below.refl _ _).drew)
        have HI2 := hid (show ∀ i, Below wr.heap.size wr (wr.drewN i) from fun i => (Drawn.n wr i).below _)
        go_region_held3 (fun W' => W'.cell? ⟨w.heap.size, 0, none⟩ = some (.int .i64 m.ins) ∧ W'.cell? ⟨w.heap.size, 1, none⟩ = some (.int .i64 m.outs) ∧ W'.cell? ⟨w.heap.size, 2, none⟩ = some (.int .i64 m.start) ∧ W'.cell? ⟨w.heap.size, 3, none⟩ = some (.slice Ao m.out.length co) ∧ W'.cell? ⟨w.heap.size, 4, none⟩ = some (.slice An m.next.length cn))
          (first
            | (with_reducible exact HSK.out _ hI)
            | (go_keep; done))
          (first
            | (go_at_call 24; with_reducible refine (HRUN.out _ (by first | exact hI | exact HI1.out | exact HI2.out _)).mono ?_; rintro e WA ⟨AX, cX, xs, zX, rfl, hI, hrX, hxs⟩))
        all_goals
          have HMm := hid (HMm.out.below hI)
          have HZ := hid (HZ.out.below hI)
          have HBW := hid (HBW.out.trans (hI.mono HBW.out.size))
          have HXI := hid hrX
          have HXS := hxs
          have HTAKE := hid ((HTAKE.out.keep (Keeps.of_below hI (fun _ h => h))).mono fun _ h _ => Nat.lt_of_lt_of_le h hI.size)
          clear hI hrX hxs HRUN HSK HI1 HI2
          clear xm0 xm1 xm2 xm3 xm4 xml
          obtain ⟨y0, y1, y2, y3, y4, yl⟩ := HZ.out.cells
          have hes : mOuts m m.start l k = mOuts Z Z.start l k := care_run HSZ.out HLZ.out HBL.out HALL.out hk
          have HES := hid hes
          have HRUN : Hid (∀ W' : World, Below WA.heap.size WA W' → Calls Try.prog 24 #[.agg #[.int .i64 Z.ins, .int .i64 Z.outs, .int .i64 Z.start, .slice Zo Z.out.length zo, .slice Zn Z.next.length zn], .int .i64 Z.start, .slice (some ⟨b, o, none⟩) k cL] W' fun e W'' => ∃ (A' : Option Addr) (c' : Nat) (z : Int), e = .returned (.tuple #[.slice A' xs.length c', .int .i64 z]) ∧ Below WA.heap.size WA W'' ∧ RdI W'' (· < W''.heap.size) A' c' xs) := hid fun W' hb => by
            have hg := run_get (mealyB_of HSH.out.2.2.2.2.1) (HZ.out.below hb).rd (HTAKE.out.keep (Keeps.of_below hb fun _ h => h)) (by rw [HSH.out.1]; exact below_take HBL.out hk) (by rw [List.length_take]; omega)
            rw [List.length_take, Nat.min_eq_left hk, mOuts_take Z Z.start l hk k (Nat.le_refl _), ← HES.out, ← HXS.out] at hg
            refine hg.mono ?_
            rintro e W'' ⟨A', c', ys, z, rfl, h1, h2, rfl⟩
            exact ⟨A', c', z, rfl, hb.trans (h1.mono hb.size), h2.old⟩
          clear hes
          go_upto_region 13 with (fail)
          have HSK : Hid (∀ W' : World, Below WA.heap.size WA W' → W'.cell? ⟨W4.heap.size, 0, none⟩ = some (.int .i64 Z.ins) ∧ W'.cell? ⟨W4.heap.size, 1, none⟩ = some (.int .i64 Z.outs) ∧ W'.cell? ⟨W4.heap.size, 2, none⟩ = some (.int .i64 Z.start) ∧ W'.cell? ⟨W4.heap.size, 3, none⟩ = some (.slice Zo Z.out.length zo) ∧ W'.cell? ⟨W4.heap.size, 4, none⟩ = some (.slice Zn Z.next.length zn)) := hid fun W' hb => by
            obtain ⟨y0, y1, y2, y3, y4, yl⟩ := (HZ.out.below hb).cells
            exact ⟨y0, y1, y2, y3, y4⟩
          have HI1 := hid (show Below WA.heap.size WA WA.drew from (Below.refl _ _).drew)
          have HI2 := hid (show ∀ i, Below WA.heap.size WA (WA.drewN i) from fun i => (Drawn.n WA i).below _)
          go_region_held3 (fun W' => W'.cell? ⟨W4.heap.size, 0, none⟩ = some (.int .i64 Z.ins) ∧ W'.cell? ⟨W4.heap.size, 1, none⟩ = some (.int .i64 Z.outs) ∧ W'.cell? ⟨W4.heap.size, 2, none⟩ = some (.int .i64 Z.start) ∧ W'.cell? ⟨W4.heap.size, 3, none⟩ = some (.slice Zo Z.out.length zo) ∧ W'.cell? ⟨W4.heap.size, 4, none⟩ = some (.slice Zn Z.next.length zn))
            (first
              | (with_reducible exact HSK.out _ hI)
              | (go_keep; done))
            (first
              | (go_at_call 24; with_reducible refine (HRUN.out _ (by first | exact hI | exact HI1.out | exact HI2.out _)).mono ?_; rintro e WB ⟨AY, cY, zY, rfl, hI, hrY⟩))
          all_goals
            have HMm := hid (HMm.out.below hI)
            have HZ := hid (HZ.out.below hI)
            have HBW := hid (HBW.out.trans (hI.mono HBW.out.size))
            have HXI := hid ((HXI.out.keep (Keeps.of_below hI (fun _ h => h))).mono fun _ h _ => Nat.lt_of_lt_of_le h hI.size)
            have HYI := hid hrY
            clear hI hrY HRUN HSK HI1 HI2
            clear y0 y1 y2 y3 y4 yl
            obtain ⟨y0, y1, y2, y3, y4, yl⟩ := HZ.out.cells
            go_wp2_with fail
            refine (rmvalid_any _ Z WB HZ.out.rd).mono ?_
            rintro e WC ⟨rfl, hb⟩
            have HMm := hid (HMm.out.below hb)
            have HZ := hid (HZ.out.below hb)
            have HXI := hid ((HXI.out.keep (Keeps.of_below hb (fun _ h => h))).mono fun _ h _ => Nat.lt_of_lt_of_le h hb.size)
            have HYI := hid ((HYI.out.keep (Keeps.of_below hb (fun _ h => h))).mono fun _ h _ => Nat.lt_of_lt_of_le h hb.size)
            have HBW := hid (HBW.out.trans (hb.mono HBW.out.size))
            clear hb
            clear y0 y1 y2 y3 y4 yl
            obtain ⟨xm0, xm1, xm2, xm3, xm4, xml⟩ := HMm.out.cells
            obtain ⟨y0, y1, y2, y3, y4, yl⟩ := HZ.out.cells
            have hmz : mealyB Z = true := mealyB_of HSH.out.2.2.2.2.1
            have hei : (Z.ins == m.ins) = true := beq_iff_eq.2 HSH.out.1
            have heo : (Z.outs == m.outs) = true := beq_iff_eq.2 HSH.out.2.1
            have hxl : ((xs.length : Int) == (k : Int)) = true := by
              have : xs.length = k := by rw [HXS.out, mOuts_len]
              simp [this]
            rw [hmz]
            go_wp2_with fail
            refine (ints_same WC xs _ _ _ _ HXI.out HYI.out).mono ?_
            rintro e WD ⟨rfl, hd⟩
            have HB := hid (HBW.out.trans ((hd.below WC.heap.size).mono HBW.out.size))
            clear hd
            go_wp2_with fail
            go_ret
            exact ⟨rfl, HB.out⟩
      · have hnx := RdM.nextRows HMm.out.rd
        have hnn := HSZ.out.nn
        obtain ⟨g3, o3, A4, c4, r4, hAn, _, hgl3, HR4, hr4, hg3⟩ := hnx.get (show q < m.next.length by omega)
        subst hAn
        have hnr := HSZ.out.nextr q xn hqn (by omega)
        rw [HR4.out] at hnr
        have hr4l : xn < r4.length := by omega
        obtain ⟨g4, o4, y, rfl, _, hgl4, HY, hg4⟩ := hr4.get hr4l
        rw [HY.out] at hnr
        have hqn2 : (q : Int) < m.next.length := by omega
        have hx4 : (xn : Int) < r4.length := by omega
        have hr4b := hr4.len.1
        have hst : mSt m m.start l (k + 1) = y := by
          show (m.next.getD (mSt m m.start l k).toNat []).getD (l.getD k 0).toNat 0 = y
          rw [HQ.out, HX.out]
          show (m.next.getD q []).getD xn 0 = y
          rw [HR4.out, HY.out]
        have HST := hid hst
        clear hr4 hnx hst
        go_wp2_with fail
        go_quiet (fail)
        go_wp2_with fail
        go_quiet (fail)
        go_wp2_with fail
        go_roundw
        case rel =>
          refine ⟨k + 1, by omega, by go_num, by rw [HST.out], fun j hj => ?_, ?_⟩
          · by_cases e : j < k
            · exact HALL.out j e
            · obtain rfl : j = k := by omega
              exact HCRD.out
          · first | exact HD.out | exact HD.out.drewN _ | exact (HD.out.drewN _).drewN _
        case measure => simp [intOf]; omega
    · have hkd : decide ((k : Int) < (l.length : Int)) = false := decide_eq_false (by omega)
      go_wp2_with fail
      go_quiet (fail)
      have hkc : (k : Int) ≤ (cL : Int) := by have := HLI.out.len.2.1; omega
      have hk0 : (0 : Int) ≤ (k : Int) := by omega
      have hkz : k ≤ cL := by omega
      have hx1 := (HLI.out.take hk)
      have HTAKE := hid hx1
      clear hx1
      have HRUN : Hid (∀ W' : World, Below wr.heap.size wr W' → Calls Try.prog 24 #[.agg #[.int .i64 m.ins, .int .i64 m.outs, .int .i64 m.start, .slice Ao m.out.length co, .slice An m.next.length cn], .int .i64 m.start, .slice AL k cL] W' fun e W'' => ∃ (A' : Option Addr) (c' : Nat) (xs : List Int) (z : Int), e = .returned (.tuple #[.slice A' xs.length c', .int .i64 z]) ∧ Below wr.heap.size wr W'' ∧ RdI W'' (· < W''.heap.size) A' c' xs ∧ Hid (xs = mOuts m m.start l k)) := hid fun W' hb => by
        have hg := run_get HFm.out.2 (HMm.out.below hb).rd (HTAKE.out.keep (Keeps.of_below hb fun _ h => h)) (below_take HBL.out hk) (by rw [List.length_take]; omega)
        rw [List.length_take, Nat.min_eq_left hk, mOuts_take m m.start l hk k (Nat.le_refl _)] at hg
        refine hg.mono ?_
        rintro e W'' ⟨A', c', xs, z, rfl, h1, h2, h3⟩
        exact ⟨A', c', xs, z, rfl, hb.trans (h1.mono hb.size), h2.old, hid h3⟩
      go_upto_region 12 with (fail)
      have HSK : Hid (∀ W' : World, Below wr.heap.size wr W' → W'.cell? ⟨w.heap.size, 0, none⟩ = some (.int .i64 m.ins) ∧ W'.cell? ⟨w.heap.size, 1, none⟩ = some (.int .i64 m.outs) ∧ W'.cell? ⟨w.heap.size, 2, none⟩ = some (.int .i64 m.start) ∧ W'.cell? ⟨w.heap.size, 3, none⟩ = some (.slice Ao m.out.length co) ∧ W'.cell? ⟨w.heap.size, 4, none⟩ = some (.slice An m.next.length cn)) := hid fun W' hb => by
        obtain ⟨xm0, xm1, xm2, xm3, xm4, xml⟩ := (HMm.out.below hb).cells
        exact ⟨xm0, xm1, xm2, xm3, xm4⟩
      have HI1 := hid (show Below wr.heap.size wr wr.drew from (Below.refl _ _).drew)
      have HI2 := hid (show ∀ i, Below wr.heap.size wr (wr.drewN i) from fun i => (Drawn.n wr i).below _)
      go_region_held3 (fun W' => W'.cell? ⟨w.heap.size, 0, none⟩ = some (.int .i64 m.ins) ∧ W'.cell? ⟨w.heap.size, 1, none⟩ = some (.int .i64 m.outs) ∧ W'.cell? ⟨w.heap.size, 2, none⟩ = some (.int .i64 m.start) ∧ W'.cell? ⟨w.heap.size, 3, none⟩ = some (.slice Ao m.out.length co) ∧ W'.cell? ⟨w.heap.size, 4, none⟩ = some (.slice An m.next.length cn))
        (first
          | (with_reducible exact HSK.out _ hI)
          | (go_keep; done))
        (first
          | (go_at_call 24; with_reducible refine (HRUN.out _ (by first | exact hI | exact HI1.out | exact HI2.out _)).mono ?_; rintro e WA ⟨AX, cX, xs, zX, rfl, hI, hrX, hxs⟩))
      all_goals
        have HMm := hid (HMm.out.below hI)
        have HZ := hid (HZ.out.below hI)
        have HBW := hid (HBW.out.trans (hI.mono HBW.out.size))
        have HXI := hid hrX
        have HXS := hxs
        have HTAKE := hid ((HTAKE.out.keep (Keeps.of_below hI (fun _ h => h))).mono fun _ h _ => Nat.lt_of_lt_of_le h hI.size)
        clear hI hrX hxs HRUN HSK HI1 HI2
        clear xm0 xm1 xm2 xm3 xm4 xml
        obtain ⟨y0, y1, y2, y3, y4, yl⟩ := HZ.out.cells
        have hes : mOuts m m.start l k = mOuts Z Z.start l k := care_run HSZ.out HLZ.out HBL.out HALL.out hk
        have HES := hid hes
        have HRUN : Hid (∀ W' : World, Below WA.heap.size WA W' → Calls Try.prog 24 #[.agg #[.int .i64 Z.ins, .int .i64 Z.outs, .int .i64 Z.start, .slice Zo Z.out.length zo, .slice Zn Z.next.length zn], .int .i64 Z.start, .slice AL k cL] W' fun e W'' => ∃ (A' : Option Addr) (c' : Nat) (z : Int), e = .returned (.tuple #[.slice A' xs.length c', .int .i64 z]) ∧ Below WA.heap.size WA W'' ∧ RdI W'' (· < W''.heap.size) A' c' xs) := hid fun W' hb => by
          have hg := run_get (mealyB_of HSH.out.2.2.2.2.1) (HZ.out.below hb).rd (HTAKE.out.keep (Keeps.of_below hb fun _ h => h)) (by rw [HSH.out.1]; exact below_take HBL.out hk) (by rw [List.length_take]; omega)
          rw [List.length_take, Nat.min_eq_left hk, mOuts_take Z Z.start l hk k (Nat.le_refl _), ← HES.out, ← HXS.out] at hg
          refine hg.mono ?_
          rintro e W'' ⟨A', c', ys, z, rfl, h1, h2, rfl⟩
          exact ⟨A', c', z, rfl, hb.trans (h1.mono hb.size), h2.old⟩
        clear hes
        go_upto_region 13 with (fail)
        have HSK : Hid (∀ W' : World, Below WA.heap.size WA W' → W'.cell? ⟨W4.heap.size, 0, none⟩ = some (.int .i64 Z.ins) ∧ W'.cell? ⟨W4.heap.size, 1, none⟩ = some (.int .i64 Z.outs) ∧ W'.cell? ⟨W4.heap.size, 2, none⟩ = some (.int .i64 Z.start) ∧ W'.cell? ⟨W4.heap.size, 3, none⟩ = some (.slice Zo Z.out.length zo) ∧ W'.cell? ⟨W4.heap.size, 4, none⟩ = some (.slice Zn Z.next.length zn)) := hid fun W' hb => by
          obtain ⟨y0, y1, y2, y3, y4, yl⟩ := (HZ.out.below hb).cells
          exact ⟨y0, y1, y2, y3, y4⟩
        have HI1 := hid (show Below WA.heap.size WA WA.drew from (Below.refl _ _).drew)
        have HI2 := hid (show ∀ i, Below WA.heap.size WA (WA.drewN i) from fun i => (Drawn.n WA i).below _)
        go_region_held3 (fun W' => W'.cell? ⟨W4.heap.size, 0, none⟩ = some (.int .i64 Z.ins) ∧ W'.cell? ⟨W4.heap.size, 1, none⟩ = some (.int .i64 Z.outs) ∧ W'.cell? ⟨W4.heap.size, 2, none⟩ = some (.int .i64 Z.start) ∧ W'.cell? ⟨W4.heap.size, 3, none⟩ = some (.slice Zo Z.out.length zo) ∧ W'.cell? ⟨W4.heap.size, 4, none⟩ = some (.slice Zn Z.next.length zn))
          (first
            | (with_reducible exact HSK.out _ hI)
            | (go_keep; done))
          (first
            | (go_at_call 24; with_reducible refine (HRUN.out _ (by first | exact hI | exact HI1.out | exact HI2.out _)).mono ?_; rintro e WB ⟨AY, cY, zY, rfl, hI, hrY⟩))
        all_goals
          have HMm := hid (HMm.out.below hI)
          have HZ := hid (HZ.out.below hI)
          have HBW := hid (HBW.out.trans (hI.mono HBW.out.size))
          have HXI := hid ((HXI.out.keep (Keeps.of_below hI (fun _ h => h))).mono fun _ h _ => Nat.lt_of_lt_of_le h hI.size)
          have HYI := hid hrY
          clear hI hrY HRUN HSK HI1 HI2
          clear y0 y1 y2 y3 y4 yl
          obtain ⟨y0, y1, y2, y3, y4, yl⟩ := HZ.out.cells
          go_wp2_with fail
          refine (rmvalid_any _ Z WB HZ.out.rd).mono ?_
          rintro e WC ⟨rfl, hb⟩
          have HMm := hid (HMm.out.below hb)
          have HZ := hid (HZ.out.below hb)
          have HXI := hid ((HXI.out.keep (Keeps.of_below hb (fun _ h => h))).mono fun _ h _ => Nat.lt_of_lt_of_le h hb.size)
          have HYI := hid ((HYI.out.keep (Keeps.of_below hb (fun _ h => h))).mono fun _ h _ => Nat.lt_of_lt_of_le h hb.size)
          have HBW := hid (HBW.out.trans (hb.mono HBW.out.size))
          clear hb
          clear y0 y1 y2 y3 y4 yl
          obtain ⟨xm0, xm1, xm2, xm3, xm4, xml⟩ := HMm.out.cells
          obtain ⟨y0, y1, y2, y3, y4, yl⟩ := HZ.out.cells
          have hmz : mealyB Z = true := mealyB_of HSH.out.2.2.2.2.1
          have hei : (Z.ins == m.ins) = true := beq_iff_eq.2 HSH.out.1
          have heo : (Z.outs == m.outs) = true := beq_iff_eq.2 HSH.out.2.1
          have hxl : ((xs.length : Int) == (k : Int)) = true := by
            have : xs.length = k := by rw [HXS.out, mOuts_len]
            simp [this]
          rw [hmz]
          go_wp2_with fail
          refine (ints_same WC xs _ _ _ _ HXI.out HYI.out).mono ?_
          rintro e WD ⟨rfl, hd⟩
          have HB := hid (HBW.out.trans ((hd.below WC.heap.size).mono HBW.out.size))
          clear hd
          go_wp2_with fail
          go_ret
          exact ⟨rfl, HB.out⟩
end Go.Proofs.Ytcmhginhfhiolaa
