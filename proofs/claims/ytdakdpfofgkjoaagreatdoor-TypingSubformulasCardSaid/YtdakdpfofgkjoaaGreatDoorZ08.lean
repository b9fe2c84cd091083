/-
  Walk of nodes' inner function: whatever is done in the rounds, they come in the order of the nodes.
-/
import Derived.RangeFuncNested
import Derived.RangeFuncBound
import Derived.RangeFuncCalls
import Derived.RangeFuncLeaves
import Derived.OwnWalkIn
import Derived.TacticsInMore
import Derived.StillTailTactics
import Derived.Test.YtdakdpfofgkjoaaGreatDoorZ07
set_option linter.unusedVariables false
set_option linter.unusedSimpArgs false
namespace Go.Proofs.YtdakdpfofgkjoaaGreatDoor
open Go.RowKit
attribute [local go_sem] cell_alloc_old run_store_func

theorem Box5.hasF {w : World} {k : Nat} {f : Fm} {A : Option Addr} {c : Nat} {D : Dom} (h : Box5 w k f A c) (hd : D k) (ha : RdA w D f.args A c) : HasF w D k 0 f A c := by
  obtain ⟨h0, h1, h2, h3, h4, h5⟩ := h.cells
  exact ⟨hd, h5, h0, h1, h2, h3, h4, ha⟩
/-- What is asked of the rounds of a loop over the nodes L: k of them are over; X: one has stopped the loop. The formula lies below B0; the function's own blocks are those from B1 on, five of them; the rounds may change the blocks of Z. -/
structure RoundsF (l : Nat) (L : List (Fm × Bool)) (Z : Dom) (B0 B1 : Nat) (J : Nat → World → Prop) (X : World → Prop) : Prop where
  z : ∀ b, Z b → B0 ≤ b ∧ (b < B1 ∨ B1 + 5 ≤ b)
  keep : ∀ k W W', J k W → Chg (fun b => B1 ≤ b ∧ b < B1 + 5) W W' → J k W'
  keepX : ∀ W W', X W → Chg (fun b => B1 ≤ b ∧ b < B1 + 5) W W' → X W'
  step : ∀ k W b o A c, B1 + 5 ≤ W.heap.size → GF W → J k W → k < L.length → HasF W (· < B0) b o (L.getD k default).1 A c →
    YieldAt Fence.wide 0 Tryz.prog l #[.pointer (some ⟨b, o, none⟩), .bool (L.getD k default).2] W fun e W' => Chg Z W W' ∧ ((e = .returned (.bool true) ∧ J (k + 1) W') ∨ (e = .returned (.bool false) ∧ X W'))
/-- What a visit says. -/
def VisSays (Z : Dom) (J : Nat → World → Prop) (X : World → Prop) (n : Nat) (w : World) (e : Ending) (w' : World) : Prop :=
  Chg Z w w' ∧ ∃ r, e = .returned (.bool r) ∧ (r = true → J n w') ∧ (r = false → X w')
/-- The iterator's blocks while it visits. -/
structure VisB (w : World) (l tb yb vb : Nat) : Prop where
  y : w.heap[yb]? = some (.cells #[.func (.yield l) #[] #[]] 103 (0, 0))
  v : w.heap[vb]? = some (.cells #[.func (.func 75) #[] #[.pointer (some ⟨tb, 0, none⟩), .pointer (some ⟨yb, 0, none⟩), .pointer (some ⟨vb, 0, none⟩)]] 107 (0, 0))
theorem VisB.chg {w w' : World} {l tb yb vb : Nat} {V : Dom} (h : VisB w l tb yb vb) (hc : Chg V w w') (hy : ¬ V yb) (hv : ¬ V vb) : VisB w' l tb yb vb := ⟨hc.box h.y hy, hc.box h.v hv⟩
theorem GF.chg {w w' : World} {V : Dom} (h : GF w) (hc : Chg V w w') (hv : ¬ V 0) : GF w' :=
  h.below (B := 1) (hc.below (fun b hb => by have : b = 0 := by omega
                                             rw [this]; exact hv) h.pos) (by omega)
theorem drop_take_head {L : List (Fm × Bool)} {k : Nat} {f : Fm} {ins : Bool} (h : (L.drop k).take f.size = preL ins f) : k < L.length ∧ L.getD k default = (f, ins) := by
  have h1 := congrArg List.length h
  rw [preL_len, List.length_take, List.length_drop] at h1
  have hs := Fm.size_eq f
  have hk : k < L.length := by omega
  refine ⟨hk, ?_⟩
  have h2 : ((L.drop k).take f.size)[0]? = (preL ins f)[0]? := by rw [h]
  rw [preL_eq, List.getElem?_take_of_lt (by omega), List.getElem?_drop] at h2
  simp at h2
  simp [List.getD, h2]
theorem preLs_append (ins : Bool) : ∀ l m : List Fm, preLs ins (l ++ m) = preLs ins l ++ preLs ins m
  | [], m => rfl
  | f :: l, m => by simp only [List.cons_append, preLs, preLs_append ins l m, List.append_assoc]
theorem drop_take_arg {L : List (Fm × Bool)} {k i : Nat} {f g : Fm} {ins : Bool} (h : (L.drop k).take f.size = preL ins f) (hi : i < f.args.length) (hg : f.args.getD i default = g) :
    (L.drop (k + 1 + sizes (f.args.take i))).take g.size = preL (ins || (formZ f.op).past) g := by
  have hsz := Fm.size_eq f
  have h1 : f.args = f.args.take i ++ g :: f.args.drop (i + 1) := by
    have e : f.args[i] = g := by rw [← hg]; simp [List.getD, hi]
    rw [← e, List.getElem_cons_drop, List.take_append_drop]
  have hss : sizes f.args = sizes (f.args.take i) + (g.size + sizes (f.args.drop (i + 1))) := by
    conv => lhs; rw [h1]
    rw [sizes_append]; rfl
  obtain ⟨q, hq⟩ : ∃ q, q = (ins || (formZ f.op).past) := ⟨_, rfl⟩
  have h2 : preL ins f = (f, ins) :: (preLs q (f.args.take i) ++ (preL q g ++ preLs q (f.args.drop (i + 1)))) := by
    rw [preL_eq, ← hq]
    conv => lhs; rw [h1]
    rw [preLs_append]; rfl
  rw [h2] at h
  have h3 := congrArg (fun X : List (Fm × Bool) => (X.drop (1 + sizes (f.args.take i))).take g.size) h
  simp only [List.drop_take, List.take_take, List.drop_drop] at h3
  rw [show 1 + sizes (f.args.take i) = sizes (f.args.take i) + 1 by omega, List.drop_succ_cons] at h3
  have h4 : (preLs q (f.args.take i)).length = sizes (f.args.take i) := preLs_len _ _
  have h5 : List.drop (sizes (f.args.take i)) (preLs q (f.args.take i) ++ (preL q g ++ preLs q (f.args.drop (i + 1)))) = preL q g ++ preLs q (f.args.drop (i + 1)) := by
    rw [← h4, List.drop_left]
  rw [h5, ← preL_len q g, List.take_left, preL_len] at h3
  rw [← hq, ← h3]
  rw [Nat.min_eq_left (by omega)]
  congr 2
  omega
set_option maxRecDepth 100000 in
set_option maxHeartbeats 4000000 in
/-- A visit: the nodes of f, in their order, unless a round stops. -/
theorem visit_any {l : Nat} {L : List (Fm × Bool)} {Z : Dom} {B0 B1 : Nat} {J : Nat → World → Prop} {X : World → Prop} (hR : RoundsF l L Z B0 B1 J X) (tb yb vb : Nat) (hy : B1 ≤ yb ∧ yb < B1 + 5) (hv : B1 ≤ vb ∧ vb < B1 + 5) (hB : 0 < B0) (f : Fm) : ∀ (ins : Bool) (b o : Nat) (A : Option Addr) (c : Nat) (d k : Nat) (w : World) (hf : HasF w (· < B0) b o f A c) (hg : GF w) (hvb : VisB w l tb yb vb) (hs : B1 + 5 ≤ w.heap.size) (hj : J k w) (hl : (L.drop k).take f.size = preL ins f) (hd : d + f.depth ≤ 5000),
    Calls Tryz.prog 75 #[.pointer (some ⟨b, o, none⟩), .bool ins, .int .i64 (d : Int), .pointer (some ⟨tb, 0, none⟩), .pointer (some ⟨yb, 0, none⟩), .pointer (some ⟨vb, 0, none⟩)] w (VisSays Z J X (k + f.size) w) := by
  refine Fm.induct (P := fun f => ∀ (ins : Bool) (b o : Nat) (A : Option Addr) (c : Nat) (d k : Nat) (w : World) (hf : HasF w (· < B0) b o f A c) (hg : GF w) (hvb : VisB w l tb yb vb) (hs : B1 + 5 ≤ w.heap.size) (hj : J k w) (hl : (L.drop k).take f.size = preL ins f) (hd : d + f.depth ≤ 5000),
    Calls Tryz.prog 75 #[.pointer (some ⟨b, o, none⟩), .bool ins, .int .i64 (d : Int), .pointer (some ⟨tb, 0, none⟩), .pointer (some ⟨yb, 0, none⟩), .pointer (some ⟨vb, 0, none⟩)] w (VisSays Z J X (k + f.size) w)) ?_ f
  intro f ih ins b o A c d k w hf hg hvb hs hj hl hd
  have HR := hid hR
  have HIH := hid ih
  have HSZ := hid (Fm.size_eq f)
  have HH := hid hf
  have HG := hid hg
  have HV := hid hvb
  have HJ := hid hj
  have HL := hid hl
  have HNY := hid (show ¬ Z yb from fun h => by have := hR.z _ h; omega)
  have HNV := hid (show ¬ Z vb from fun h => by have := hR.z _ h; omega)
  have HN0 := hid (show ¬ Z 0 from fun h => by have := hR.z _ h; omega)
  have HKZ : Hid (∀ b, b < w.heap.size → b < B0 → ¬ Z b) := hid fun b _ h hz => by have := hR.z _ hz; omega
  have hal := hf.args.len.1
  obtain ⟨hkL, hLk⟩ := drop_take_head hl
  have hdep := Fm.depth_eq f
  have hd1 : ((d : Int) == 5000) = false := beq_false_of (by omega)
  have hd2 : d < 5000 := by omega
  obtain ⟨yf, yt, ya, yb', hyr, hR4⟩ := hR.step k w b o A c hs hg hj hkL (by rw [hLk]; exact hf)
  rw [hLk] at hyr
  obtain ⟨_, hlw, _, _, _, _, _, _⟩ := hf
  have y0 := block_cell hvb.y (i := 0) rfl
  have HR4 := hid hR4
  have HD := hid hd
  clear hR ih hg hvb hj hl hkL hLk hdep hR4 hd
  go_enter Tryz.func75, Tryz.ntmps75
  go_upto_region 4 with (fail)
  refine (wpIn_wide (n := 1)).1 ?_
  gi_wp2
  refine HR4.out.mono ?_
  rintro e w4 ⟨hc4, (⟨rfl, hJ4⟩ | ⟨rfl, hX4⟩)⟩
  rotate_left
  · have HC4 := hid hc4
    have HX4 := hid hX4
    clear hc4 hX4 y0 hyr
    gi_wp2
    go_wp2_with fail
    go_ret
    exact ⟨HC4.out, false, rfl, (fun h => by cases h), fun _ => HX4.out⟩
  · have HC4 := hid hc4
    have HJ4 := hid hJ4
    obtain ⟨_, hl4, c0, c1, c2, c3, c4, _⟩ := HH.out.keep (hc4.keeps HKZ.out)
    have hg4 := HG.out.chg hc4 HN0.out
    have hcall := formof_any f.op w4 hg4
    unfold formV at hcall
    obtain ⟨s, hsf⟩ : ∃ s, formZ f.op = s := ⟨_, rfl⟩
    rw [hsf] at hcall
    have HCALL := hid hcall
    have HS := hid hsf
    clear hc4 hJ4 hg4 hcall hsf y0 hyr
    gi_wp2
    go_upto_region 7 with (first | (go_at_call 49; refine HCALL.out.mono ?_; rintro e w5 ⟨rfl, hb5⟩))
    refine wp_gen fun W hW => ?_
    have hbw : Below w4.heap.size w4 W := by rw [hW]; exact hb5.trans ((show Below w5.heap.size w5 _ by go_grown).mono hb5.size)
    have hcs : W.heap[w5.heap.size]? = some (.cells #[.int .i64 s.least, .int .i64 s.most, .int .i64 s.val, .int .i64 s.bound, .bool s.named, .bool s.past, .bool s.future, .bool s.loose] 84 (0, 0)) := by rw [hW]; exact heap_alloc_new w5 _
    have r5 := block_cell hcs (i := 5) rfl
    have hlW := lt_of_block hcs
    have HC7 := hid ((HC4.out).trans (Chg.of_new hbw))
    have HJ7 := hid (HR.out.keep _ _ _ HJ4.out (Chg.of_new hbw))
    obtain ⟨_, hl7, _, _, _, _, c4, _⟩ := HH.out.keep (HC7.out.keeps HKZ.out)
    obtain ⟨ps, hps⟩ : ∃ ps, s.past = ps := ⟨_, rfl⟩
    rw [hps] at r5
    have HPS := hid (show (formZ f.op).past = ps by rw [HS.out]; exact hps)
    obtain ⟨W8, hW8⟩ : ∃ W8, W8 = W := ⟨_, rfl⟩
    have HC8 := hid HC7.out
    have HJ8 := hid HJ7.out
    rw [← hW8] at HC8 HJ8
    clear hb5 hW hbw hcs c0 c1 c2 c3 hps hl4
    cases ins
    · have HQ := hid (show ps = (false || (formZ f.op).past) by rw [HPS.out]; rfl)
      subst hW8
      go_wp2_with fail
      go_loopw [44] (fun q wr => ∃ i : Nat, i ≤ f.args.length ∧ q = .int .i64 (i : Int) ∧ Chg Z w wr ∧ J (k + 1 + sizes (f.args.take i)) wr) (fun q _ => f.args.length - (intOf q).toNat)
      case atStart => exact ⟨0, Nat.zero_le _, rfl, HC8.out, by simpa [sizes] using HJ8.out⟩
      case round =>
        obtain ⟨i, hi, rfl, hc, hj⟩ := hrel
        have HCR := hid hc
        have HJR := hid hj
        obtain ⟨_, hlr, _, _, _, _, c4', ha'⟩ := HH.out.keep (hc.keeps HKZ.out)
        have HAR := hid ha'
        have hvr := HV.out.chg hc HNY.out HNV.out
        have HVR := hid hvr
        have hgr := HG.out.chg hc HN0.out
        have HGR := hid hgr
        have HSZR := hid (Nat.le_trans hs hc.size)
        clear hc hj ha' hvr hgr
        by_cases hli : i < f.args.length
        · have hii : (i : Int) < f.args.length := by omega
          obtain ⟨b1, o1, A1, c1, g, rfl, HX, hg⟩ := HAR.out.get hli
          have HSN := hid (sizes_snoc f.args hli)
          have HLG := hid (drop_take_arg HL.out hli HX.out)
          have HIG := hid (HIH.out i hli)
          have HDG := hid (arg_depth hli)
          rw [HX.out] at HSN HIG HDG
          rw [← HQ.out] at HLG
          have f0 := block_cell HVR.out.v (i := 0) rfl
          have hwd : IntKind.i64.wrap ((d : Int) + 1) = (d : Int) + 1 := IntWalk.i64_in _ (by omega)
          have HCALL : Hid (∀ W', Drawn wr W' → Calls Tryz.prog 75 #[.pointer (some ⟨b1, o1 + i * 5, none⟩), .bool ps, .int .i64 ((d : Int) + 1), .pointer (some ⟨tb, 0, none⟩), .pointer (some ⟨yb, 0, none⟩), .pointer (some ⟨vb, 0, none⟩)] W' fun e W9 => Chg Z wr W9 ∧ ∃ r, e = .returned (.bool r) ∧ (r = true → J (k + 1 + sizes (f.args.take (i + 1))) W9) ∧ (r = false → X W9)) := hid fun W' hdw => by
            have hbw := hdw.below wr.heap.size
            have hcd : Chg (fun b => B1 ≤ b ∧ b < B1 + 5) wr W' := Chg.of_new hbw
            rw [show (d : Int) + 1 = ((d + 1 : Nat) : Int) by omega]
            refine (HIG.out ps b1 (o1 + i * 5) A1 c1 (d + 1) (k + 1 + sizes (f.args.take i)) W' (hg.keep hdw.keeps) (HGR.out.below hbw HGR.out.pos) ⟨(hbw.block _ (lt_of_block HVR.out.y)).trans HVR.out.y, (hbw.block _ (lt_of_block HVR.out.v)).trans HVR.out.v⟩ (Nat.le_trans HSZR.out hbw.size) (HR.out.keep _ _ _ HJR.out hcd) HLG.out (by have := HDG.out; have := HD.out; omega)).mono ?_
            rintro e w' ⟨hc, hx⟩
            rw [HSN.out, ← Nat.add_assoc]
            exact ⟨(Chg.of_new (V := Z) hbw).trans hc, hx⟩
          have HCELL : Hid (∀ W' : World, Chg Z wr W' → W'.cell? ⟨vb, 0, none⟩ = some (.func (.func 75) #[] #[.pointer (some ⟨tb, 0, none⟩), .pointer (some ⟨yb, 0, none⟩), .pointer (some ⟨vb, 0, none⟩)]) ∧ W'.cell? ⟨b, o + 4, none⟩ = some (.slice (some ⟨b1, o1, none⟩) f.args.length c)) := hid fun W' hc =>
            ⟨block_cell (HVR.out.chg hc HNY.out HNV.out).v (i := 0) rfl, (HH.out.keep ((HCR.out.trans hc).keeps HKZ.out)).c4⟩
          clear hg
          have HI1 := hid (show Drawn wr wr.drew from (Drawn.refl wr).drew)
          have HI2 := hid (fun i => Drawn.n wr i)
          go_upto_region 11 with (fail)
          go_region_held3 (fun W' : World => W'.cell? ⟨vb, 0, none⟩ = some (.func (.func 75) #[] #[.pointer (some ⟨tb, 0, none⟩), .pointer (some ⟨yb, 0, none⟩), .pointer (some ⟨vb, 0, none⟩)]) ∧ W'.cell? ⟨b, o + 4, none⟩ = some (.slice (some ⟨b1, o1, none⟩) f.args.length c))
            (first | (with_reducible exact HCELL.out _ hI) | (go_keep; done))
            ((go_at_call 75; with_reducible refine (HCALL.out _ (by first | exact HI1.out | exact HI2.out _)).mono ?_; rintro e W9 ⟨hI, r, rfl, hJ, hX⟩))
          all_goals
            have HCI := hid hI
            have HCJ := hid hJ
            have HCX := hid hX
            clear hI hJ hX f0 c4'
            cases r
            · go_wp2_with fail
              go_ret
              exact ⟨HCR.out.trans HCI.out, false, rfl, (fun h => by cases h), fun _ => HCX.out trivial⟩
            · go_wp2_with fail
              go_roundw
              case rel => exact ⟨i + 1, by omega, by go_num, HCR.out.trans HCI.out, HCJ.out rfl⟩
              case measure => simp [intOf]; omega
        · have hie : f.args.take i = f.args := List.take_of_length_le (by omega)
          have hnl : ¬ (i : Int) < f.args.length := by omega
          have HJE := hid (show J (k + f.size) wr by have := HJR.out; rw [hie] at this; rw [HSZ.out, ← Nat.add_assoc]; exact this)
          clear hie
          go_wp2_with fail
          go_ret
          exact ⟨HCR.out, true, rfl, (fun _ => HJE.out), fun h => by cases h⟩
    · have HQ := hid (show true = (true || (formZ f.op).past) by rfl)
      subst hW8
      go_wp2_with fail
      go_loopw [44] (fun q wr => ∃ i : Nat, i ≤ f.args.length ∧ q = .int .i64 (i : Int) ∧ Chg Z w wr ∧ J (k + 1 + sizes (f.args.take i)) wr) (fun q _ => f.args.length - (intOf q).toNat)
      case atStart => exact ⟨0, Nat.zero_le _, rfl, HC8.out, by simpa [sizes] using HJ8.out⟩
      case round =>
        obtain ⟨i, hi, rfl, hc, hj⟩ := hrel
        have HCR := hid hc
        have HJR := hid hj
        obtain ⟨_, hlr, _, _, _, _, c4', ha'⟩ := HH.out.keep (hc.keeps HKZ.out)
        have HAR := hid ha'
        have hvr := HV.out.chg hc HNY.out HNV.out
        have HVR := hid hvr
        have hgr := HG.out.chg hc HN0.out
        have HGR := hid hgr
        have HSZR := hid (Nat.le_trans hs hc.size)
        clear hc hj ha' hvr hgr
        by_cases hli : i < f.args.length
        · have hii : (i : Int) < f.args.length := by omega
          obtain ⟨b1, o1, A1, c1, g, rfl, HX, hg⟩ := HAR.out.get hli
          have HSN := hid (sizes_snoc f.args hli)
          have HLG := hid (drop_take_arg HL.out hli HX.out)
          have HIG := hid (HIH.out i hli)
          have HDG := hid (arg_depth hli)
          rw [HX.out] at HSN HIG HDG
          rw [← HQ.out] at HLG
          have f0 := block_cell HVR.out.v (i := 0) rfl
          have hwd : IntKind.i64.wrap ((d : Int) + 1) = (d : Int) + 1 := IntWalk.i64_in _ (by omega)
          have HCALL : Hid (∀ W', Drawn wr W' → Calls Tryz.prog 75 #[.pointer (some ⟨b1, o1 + i * 5, none⟩), .bool true, .int .i64 ((d : Int) + 1), .pointer (some ⟨tb, 0, none⟩), .pointer (some ⟨yb, 0, none⟩), .pointer (some ⟨vb, 0, none⟩)] W' fun e W9 => Chg Z wr W9 ∧ ∃ r, e = .returned (.bool r) ∧ (r = true → J (k + 1 + sizes (f.args.take (i + 1))) W9) ∧ (r = false → X W9)) := hid fun W' hdw => by
            have hbw := hdw.below wr.heap.size
            have hcd : Chg (fun b => B1 ≤ b ∧ b < B1 + 5) wr W' := Chg.of_new hbw
            rw [show (d : Int) + 1 = ((d + 1 : Nat) : Int) by omega]
            refine (HIG.out true b1 (o1 + i * 5) A1 c1 (d + 1) (k + 1 + sizes (f.args.take i)) W' (hg.keep hdw.keeps) (HGR.out.below hbw HGR.out.pos) ⟨(hbw.block _ (lt_of_block HVR.out.y)).trans HVR.out.y, (hbw.block _ (lt_of_block HVR.out.v)).trans HVR.out.v⟩ (Nat.le_trans HSZR.out hbw.size) (HR.out.keep _ _ _ HJR.out hcd) HLG.out (by have := HDG.out; have := HD.out; omega)).mono ?_
            rintro e w' ⟨hc, hx⟩
            rw [HSN.out, ← Nat.add_assoc]
            exact ⟨(Chg.of_new (V := Z) hbw).trans hc, hx⟩
          have HCELL : Hid (∀ W' : World, Chg Z wr W' → W'.cell? ⟨vb, 0, none⟩ = some (.func (.func 75) #[] #[.pointer (some ⟨tb, 0, none⟩), .pointer (some ⟨yb, 0, none⟩), .pointer (some ⟨vb, 0, none⟩)]) ∧ W'.cell? ⟨b, o + 4, none⟩ = some (.slice (some ⟨b1, o1, none⟩) f.args.length c)) := hid fun W' hc =>
            ⟨block_cell (HVR.out.chg hc HNY.out HNV.out).v (i := 0) rfl, (HH.out.keep ((HCR.out.trans hc).keeps HKZ.out)).c4⟩
          clear hg
          have HI1 := hid (show Drawn wr wr.drew from (Drawn.refl wr).drew)
          have HI2 := hid (fun i => Drawn.n wr i)
          go_upto_region 11 with (fail)
          go_region_held3 (fun W' : World => W'.cell? ⟨vb, 0, none⟩ = some (.func (.func 75) #[] #[.pointer (some ⟨tb, 0, none⟩), .pointer (some ⟨yb, 0, none⟩), .pointer (some ⟨vb, 0, none⟩)]) ∧ W'.cell? ⟨b, o + 4, none⟩ = some (.slice (some ⟨b1, o1, none⟩) f.args.length c))
            (first | (with_reducible exact HCELL.out _ hI) | (go_keep; done))
            ((go_at_call 75; with_reducible refine (HCALL.out _ (by first | exact HI1.out | exact HI2.out _)).mono ?_; rintro e W9 ⟨hI, r, rfl, hJ, hX⟩))
          all_goals
            have HCI := hid hI
            have HCJ := hid hJ
            have HCX := hid hX
            clear hI hJ hX f0 c4'
            cases r
            · go_wp2_with fail
              go_ret
              exact ⟨HCR.out.trans HCI.out, false, rfl, (fun h => by cases h), fun _ => HCX.out trivial⟩
            · go_wp2_with fail
              go_roundw
              case rel => exact ⟨i + 1, by omega, by go_num, HCR.out.trans HCI.out, HCJ.out rfl⟩
              case measure => simp [intOf]; omega
        · have hie : f.args.take i = f.args := List.take_of_length_le (by omega)
          have hnl : ¬ (i : Int) < f.args.length := by omega
          have HJE := hid (show J (k + f.size) wr by have := HJR.out; rw [hie] at this; rw [HSZ.out, ← Nat.add_assoc]; exact this)
          clear hie
          go_wp2_with fail
          go_ret
          exact ⟨HCR.out, true, rfl, (fun _ => HJE.out), fun h => by cases h⟩
end Go.Proofs.YtdakdpfofgkjoaaGreatDoor
