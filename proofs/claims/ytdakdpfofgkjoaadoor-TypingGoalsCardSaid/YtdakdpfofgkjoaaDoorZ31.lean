/-
  Walk of typing's nodes: an iterator over the nodes of a formula; the law for a range statement over it.
  The law for a range statement over typing's nodes; walk of nodes.
-/
import Derived.Shelf.Abstract
import Derived.Shelf.AbstractIn
import Derived.Test.YtdakdpfofgkjoaaDoorZ09
set_option linter.unusedVariables false
set_option linter.unusedSimpArgs false
namespace Go.Proofs.YtdakdpfofgkjoaaDoor
open Go.RowKit Go.Shelf
attribute [local go_sem] cell_alloc_old run_store_func

/-- What is asked of the rounds of a loop over the nodes L (as RoundsF, for the iterator of typing). -/
structure RoundsT (l : Nat) (L : List (Fm × Bool)) (Z : Dom) (B0 B1 : Nat) (J : Nat → World → Prop) (X : World → Prop) : Prop where
  z : ∀ b, Z b → B0 ≤ b ∧ (b < B1 ∨ B1 + 2 ≤ b)
  keep : ∀ k W W', J k W → Chg (fun b => B1 ≤ b ∧ b < B1 + 2) W W' → J k W'
  keepX : ∀ W W', X W → Chg (fun b => B1 ≤ b ∧ b < B1 + 2) W W' → X W'
  step : ∀ k W b o A c, B1 + 2 ≤ W.heap.size → J k W → k < L.length → HasF W (· < B0) b o (L.getD k default).1 A c →
    YieldAt Fence.wide 0 Tryd.prog l #[.pointer (some ⟨b, o, none⟩)] W fun e W' => Chg Z W W' ∧ ((e = .returned (.bool true) ∧ J (k + 1) W') ∨ (e = .returned (.bool false) ∧ X W'))
/-- The iterator's blocks while it visits. -/
structure VisT (w : World) (l yb vb : Nat) : Prop where
  y : w.heap[yb]? = some (.cells #[.func (.yield l) #[] #[]] 77 (0, 0))
  v : w.heap[vb]? = some (.cells #[.func (.func 37) #[] #[.pointer (some ⟨yb, 0, none⟩), .pointer (some ⟨vb, 0, none⟩)]] 77 (0, 0))
theorem VisT.chg {w w' : World} {l yb vb : Nat} {V : Dom} (h : VisT w l yb vb) (hc : Chg V w w') (hy : ¬ V yb) (hv : ¬ V vb) : VisT w' l yb vb := ⟨hc.box h.y hy, hc.box h.v hv⟩
set_option maxRecDepth 100000 in
set_option maxHeartbeats 4000000 in
/-- A visit: the nodes of f, in their order, unless a round stops. -/
theorem visitT_any {l : Nat} {L : List (Fm × Bool)} {Z : Dom} {B0 B1 : Nat} {J : Nat → World → Prop} {X : World → Prop} (hR : RoundsT l L Z B0 B1 J X) (yb vb : Nat) (hy : B1 ≤ yb ∧ yb < B1 + 2) (hv : B1 ≤ vb ∧ vb < B1 + 2) (hB : 0 < B0) (f : Fm) : ∀ (ins : Bool) (b o : Nat) (A : Option Addr) (c : Nat) (k : Nat) (w : World) (hf : HasF w (· < B0) b o f A c) (hvb : VisT w l yb vb) (hs : B1 + 2 ≤ w.heap.size) (hj : J k w) (hl : (L.drop k).take f.size = preL ins f),
    Calls Tryd.prog 37 #[.pointer (some ⟨b, o, none⟩), .pointer (some ⟨yb, 0, none⟩), .pointer (some ⟨vb, 0, none⟩)] w (VisSays Z J X (k + f.size) w) := by
  refine Fm.induct (P := fun f => ∀ (ins : Bool) (b o : Nat) (A : Option Addr) (c : Nat) (k : Nat) (w : World) (hf : HasF w (· < B0) b o f A c) (hvb : VisT w l yb vb) (hs : B1 + 2 ≤ w.heap.size) (hj : J k w) (hl : (L.drop k).take f.size = preL ins f),
    Calls Tryd.prog 37 #[.pointer (some ⟨b, o, none⟩), .pointer (some ⟨yb, 0, none⟩), .pointer (some ⟨vb, 0, none⟩)] w (VisSays Z J X (k + f.size) w)) ?_ f
  intro f ih ins b o A c k w hf hvb hs hj hl
  have HR := hid hR
  have HIH := hid ih
  have HSZ := hid (Fm.size_eq f)
  have HH := hid hf
  have HV := hid hvb
  have HJ := hid hj
  have HL := hid hl
  have HNY := hid (show ¬ Z yb from fun h => by have := hR.z _ h; omega)
  have HNV := hid (show ¬ Z vb from fun h => by have := hR.z _ h; omega)
  have HKZ : Hid (∀ b, b < w.heap.size → b < B0 → ¬ Z b) := hid fun b _ h hz => by have := hR.z _ hz; omega
  have hal := hf.args.len.1
  obtain ⟨hkL, hLk⟩ := drop_take_head hl
  obtain ⟨yf, yt, ya, yb', hyr, hR4⟩ := hR.step k w b o A c hs hj hkL (by rw [hLk]; exact hf)
  obtain ⟨_, hlw, _, _, _, _, _, _⟩ := hf
  have y0 := block_cell hvb.y (i := 0) rfl
  have HR4 := hid hR4
  clear hR ih hvb hj hl hkL hLk hR4
  go_enter Tryd.func37, Tryd.ntmps37
  go_upto_region 1 with (fail)
  refine (wpIn_wide (n := 1)).1 ?_
  gi_wp2
  refine HR4.out.mono ?_
  rintro e w4 ⟨hc4, (⟨rfl, hJ4⟩ | ⟨rfl, hX4⟩)⟩
  rotate_left
  · have HC4 := hid hc4
    have HX4 := hid hX4
    clear hc4 hX4 y0 hyr
    gi_wp2
    go_wp2_with fail
    go_ret
    exact ⟨HC4.out, false, rfl, (fun h => by cases h), fun _ => HX4.out⟩
  · have HC8 := hid hc4
    have HJ8 := hid hJ4
    obtain ⟨_, hl4, c0, c1, c2, c3, c4, _⟩ := HH.out.keep (hc4.keeps HKZ.out)
    obtain ⟨ps, hps⟩ : ∃ ps, ps = (ins || (formZ f.op).past) := ⟨_, rfl⟩
    have HQ := hid hps
    clear hc4 hJ4 y0 hyr c0 c1 c2 c3 hps
    gi_wp2
    go_wp2_with fail
    go_loopw [15] (fun q wr => ∃ i : Nat, i ≤ f.args.length ∧ q = .int .i64 (i : Int) ∧ Chg Z w wr ∧ J (k + 1 + sizes (f.args.take i)) wr) (fun q _ => f.args.length - (intOf q).toNat)
    case atStart => exact ⟨0, Nat.zero_le _, rfl, HC8.out, by simpa [sizes] using HJ8.out⟩
    case round =>
      obtain ⟨i, hi, rfl, hc, hj⟩ := hrel
      have HCR := hid hc
      have HJR := hid hj
      obtain ⟨_, hlr, _, _, _, _, c4', ha'⟩ := HH.out.keep (hc.keeps HKZ.out)
      have HAR := hid ha'
      have hvr := HV.out.chg hc HNY.out HNV.out
      have HVR := hid hvr
      have HSZR := hid (Nat.le_trans hs hc.size)
      clear hc hj ha' hvr
      by_cases hli : i < f.args.length
      · have hii : (i : Int) < f.args.length := by omega
        obtain ⟨b1, o1, A1, c1, g, rfl, HX, hg⟩ := HAR.out.get hli
        have HSN := hid (sizes_snoc f.args hli)
        have HLG := hid (drop_take_arg HL.out hli HX.out)
        have HIG := hid (HIH.out i hli)
        rw [HX.out] at HSN HIG
        rw [← HQ.out] at HLG
        have f0 := block_cell HVR.out.v (i := 0) rfl
        have HCALL : Hid (∀ W', Drawn wr W' → Calls Tryd.prog 37 #[.pointer (some ⟨b1, o1 + i * 5, none⟩), .pointer (some ⟨yb, 0, none⟩), .pointer (some ⟨vb, 0, none⟩)] W' fun e W9 => Chg Z wr W9 ∧ ∃ r, e = .returned (.bool r) ∧ (r = true → J (k + 1 + sizes (f.args.take (i + 1))) W9) ∧ (r = false → X W9)) := hid fun W' hdw => by
          have hbw := hdw.below wr.heap.size
          have hcd : Chg (fun b => B1 ≤ b ∧ b < B1 + 2) wr W' := Chg.of_new hbw
          refine (HIG.out ps b1 (o1 + i * 5) A1 c1 (k + 1 + sizes (f.args.take i)) W' (hg.keep hdw.keeps) ⟨(hbw.block _ (lt_of_block HVR.out.y)).trans HVR.out.y, (hbw.block _ (lt_of_block HVR.out.v)).trans HVR.out.v⟩ (Nat.le_trans HSZR.out hbw.size) (HR.out.keep _ _ _ HJR.out hcd) HLG.out).mono ?_
          rintro e w' ⟨hc, hx⟩
          rw [HSN.out, ← Nat.add_assoc]
          exact ⟨(Chg.of_new (V := Z) hbw).trans hc, hx⟩
        have HCELL : Hid (∀ W' : World, Chg Z wr W' → W'.cell? ⟨vb, 0, none⟩ = some (.func (.func 37) #[] #[.pointer (some ⟨yb, 0, none⟩), .pointer (some ⟨vb, 0, none⟩)]) ∧ W'.cell? ⟨b, o + 4, none⟩ = some (.slice (some ⟨b1, o1, none⟩) f.args.length c)) := hid fun W' hc =>
          ⟨block_cell (HVR.out.chg hc HNY.out HNV.out).v (i := 0) rfl, (HH.out.keep ((HCR.out.trans hc).keeps HKZ.out)).c4⟩
        clear hg
        have HI1 := hid (show Drawn wr wr.drew from (Drawn.refl wr).drew)
        have HI2 := hid (fun i => Drawn.n wr i)
        go_upto_region 6 with (fail)
        go_region_held3 (fun W' : World => W'.cell? ⟨vb, 0, none⟩ = some (.func (.func 37) #[] #[.pointer (some ⟨yb, 0, none⟩), .pointer (some ⟨vb, 0, none⟩)]) ∧ W'.cell? ⟨b, o + 4, none⟩ = some (.slice (some ⟨b1, o1, none⟩) f.args.length c))
          (first | (with_reducible exact HCELL.out _ hI) | (go_keep; done))
          ((go_at_call 37; with_reducible refine (HCALL.out _ (by first | exact HI1.out | exact HI2.out _)).mono ?_; rintro e W9 ⟨hI, r, rfl, hJ, hX⟩))
        all_goals
          have HCI := hid hI
          have HCJ := hid hJ
          have HCX := hid hX
          clear hI hJ hX f0 c4'
          cases r
          · go_wp2_with fail
            go_ret
            exact ⟨HCR.out.trans HCI.out, false, rfl, (fun h => by cases h), fun _ => HCX.out trivial⟩
          · go_wp2_with fail
            go_roundw
            case rel => exact ⟨i + 1, by omega, by go_num, HCR.out.trans HCI.out, HCJ.out rfl⟩
            case measure => simp [intOf]; omega
      · have hie : f.args.take i = f.args := List.take_of_length_le (by omega)
        have hnl : ¬ (i : Int) < f.args.length := by omega
        have HJE := hid (show J (k + f.size) wr by have := HJR.out; rw [hie] at this; rw [HSZ.out, ← Nat.add_assoc]; exact this)
        clear hie
        go_wp2_with fail
        go_ret
        exact ⟨HCR.out, true, rfl, (fun _ => HJE.out), fun h => by cases h⟩
set_option maxRecDepth 100000 in
set_option maxHeartbeats 4000000 in
theorem nodesT1_any {l : Nat} {Z : Dom} {B0 B1 : Nat} {J : Nat → World → Prop} {X : World → Prop} (f : Fm) (hR : RoundsT l (preL false f) Z B0 B1 J X) (hB : 0 < B0) (b o pb : Nat) (A : Option Addr) (c : Nat) (w : World)
    (hw : w.heap.size = B1) (hBB : B0 ≤ B1) (hf : HasF w (· < B0) b o f A c) (hp : w.cell? ⟨pb, 0, none⟩ = some (.pointer (some ⟨b, o, none⟩))) (hj : J 0 w) :
    Calls Tryd.prog 36 #[.func (.yield l) #[] #[], .pointer (some ⟨pb, 0, none⟩)] w fun e w' => (∃ v, e = .returned v) ∧ Chg Z w w' ∧ (J f.size w' ∨ X w') := by
  subst hw
  have HR := hid hR
  have HH := hid hf
  have HJ := hid hj
  have hpl : pb < w.heap.size := World.block_lt_of_cell? w _ hp
  clear hR hf hj
  go_enter Tryd.func36, Tryd.ntmps36
  go_upto_region 2 with (fail)
  refine wp_gen fun W hW => ?_
  have hbw : Below w.heap.size w W := by rw [hW]; go_grown
  have e0 : W.heap[w.heap.size]? = some (.cells #[.func (.yield l) #[] #[]] 77 (0, 0)) := by
    rw [hW, at_old _ _ _ (by simp only [World.size_alloc]; omega), at_new _ _ _ rfl]
  have e3 : W.heap[w.heap.size + 1]? = some (.cells #[.nilFunc] 77 (0, 0)) := by
    rw [hW, at_new _ _ _ (by simp only [World.size_alloc])]
  have hws : W.heap.size = w.heap.size + 2 := by rw [hW]; simp only [World.size_alloc]
  have hpW : W.cell? ⟨pb, 0, none⟩ = some (.pointer (some ⟨b, o, none⟩)) := (hbw.cell (p := ⟨pb, 0, none⟩) hpl).trans hp
  clear hW hp
  have z0 := block_cell e3 (i := 0) rfl
  have z1 := block_free e3 (i := 0)
  have z2 := lt_of_block e3
  have hplW : pb < W.heap.size := by omega
  have HE0 := hid e0
  have HE3 := hid e3
  have HBW := hid hbw
  have HWS := hid hws
  have HPW := hid hpW
  clear e0 e3 hbw hws hpW
  go_upto_region 3 with (fail)
  refine wp_gen fun W3 hW => ?_
  have hvb3 : VisT W3 l w.heap.size (w.heap.size + 1) := by
    refine ⟨?_, ?_⟩
    · rw [hW, Below.heap_setCell _ _ _ _ (by simp only []; omega)]; exact HE0.out
    · rw [hW, set_block HE3.out]; rfl
  have hb3 : Below w.heap.size w W3 := by
    rw [hW]
    exact HBW.out.trans ((Chg.set (V := fun k => k = w.heap.size + 1) (Chg.refl _ W) _ _ fun _ => rfl).below (fun b hb => by omega) HBW.out.size)
  have hs3 : w.heap.size + 2 ≤ W3.heap.size := by rw [hW]; simp; have := HWS.out; omega
  have hp3 : W3.cell? ⟨pb, 0, none⟩ = some (.pointer (some ⟨b, o, none⟩)) := by
    rw [← HPW.out]
    have := (Chg.set (V := fun k => k = w.heap.size + 1) (Chg.refl _ W) (p := ⟨w.heap.size + 1, 0, none⟩) (u := .func (.func 37) #[] #[.pointer (some ⟨w.heap.size, 0, none⟩), .pointer (some ⟨w.heap.size + 1, 0, none⟩)]) fun _ => rfl)
    rw [← hW] at this
    exact World.cell?_of_block (w := W) (a := ⟨pb, 0, none⟩) (this.block pb (by simpa using hplW) (by omega))
  have f0 := block_cell hvb3.v (i := 0) rfl
  have HCALL : Hid (Calls Tryd.prog 37 #[.pointer (some ⟨b, o, none⟩), .pointer (some ⟨w.heap.size, 0, none⟩), .pointer (some ⟨w.heap.size + 1, 0, none⟩)] W3 fun e W9 => Chg Z W3 W9 ∧ ∃ r, e = .returned (.bool r) ∧ (r = true → J (0 + f.size) W9) ∧ (r = false → X W9)) :=
    hid (visitT_any HR.out w.heap.size (w.heap.size + 1) (by omega) (by omega) hB f false b o A c 0 W3 (HH.out.keep (Keeps.of_below hb3 fun k (hk : k < B0) => Nat.lt_of_lt_of_le hk hBB)) hvb3 hs3 (HR.out.keep _ _ _ HJ.out (Chg.of_new hb3)) (by rw [List.drop_zero, ← preL_len false f, List.take_length]))
  have HB3 := hid hb3
  clear hW hb3 hvb3 z0 z1 z2 HE0 HE3 HBW HWS HPW hplW
  go_wp2_with (first | (go_at_call 37; with_reducible refine HCALL.out.mono ?_; rintro e W9 ⟨hI, r, rfl, hJ, hX⟩))
  have hc9 := (Chg.of_new (V := Z) HB3.out).trans hI
  go_end0
  refine ⟨⟨_, rfl⟩, hc9, ?_⟩
  cases r
  · exact .inr (hX rfl)
  · have := hJ rfl
    rw [Nat.zero_add] at this
    exact .inl this
end Go.Proofs.YtdakdpfofgkjoaaDoor
set_option linter.unusedVariables false
set_option linter.unusedSimpArgs false
namespace Go.Proofs.YtdakdpfofgkjoaaDoor
open Go.RowKit Go.Shelf
attribute [local go_sem] cell_alloc_old run_store_func

set_option maxRecDepth 100000 in
set_option maxHeartbeats 4000000 in
theorem range_nodesT {g : Operand} {ps : Array Tmp} {assign body : Code} {Q : Exit → Act → World → Prop} {a : Act} {w : World} (f : Fm) (b o pb B0 : Nat) (A : Option Addr) (c : Nat) (Z : Dom) (I : Nat → World → Prop) (Ix : Code → World → Prop)
    (hg : a.eval g = .func (.func 36) #[] #[.pointer (some ⟨pb, 0, none⟩)]) (hps : ps.size = 1)
    (hf : HasF w (· < B0) b o f A c) (hB : 0 < B0) (hBw : B0 ≤ w.heap.size) (hp : w.cell? ⟨pb, 0, none⟩ = some (.pointer (some ⟨b, o, none⟩)))
    (hZ : ∀ b, Z b → B0 ≤ b ∧ (b < w.heap.size ∨ w.heap.size + 4 ≤ b))
    (hI : ∀ k W W', I k W → Chg (fun b => w.heap.size ≤ b ∧ b < w.heap.size + 4) W W' → I k W')
    (hIx : ∀ c W W', Ix c W → Chg (fun b => w.heap.size ≤ b ∧ b < w.heap.size + 4) W W' → Ix c W') (h0 : I 0 w)
    (a₁ : Value → Act)
    (hassign : ∀ (l : Nat) (p : Value) (W : World) (K : Act → World → Prop), K (a₁ p) W →
      assign.wpIn (Fence.wide.inRound l) 0 Tryd.prog (Exit.then K (fun _ _ _ => False)) { tmps := (ps.zip #[p]).foldl (fun t (p, v) => t.setIfInBounds p v) a.tmps, defers := [] } W)
    (hround : ∀ (l k : Nat) (W : World) (b o : Nat) (A : Option Addr) (c : Nat), w.heap.size + 4 ≤ W.heap.size → Chg Z w W → I k W → k < (preL false f).length → HasF W (· < B0) b o ((preL false f).getD k default).1 A c →
      body.wpIn (Fence.wide.inRound l) 0 Tryd.prog (RndPost Z I Ix k W) (a₁ (.pointer (some ⟨b, o, none⟩))) W)
    (hdone : ∀ W, Chg Z w W → I f.size W → W.heap[w.heap.size]? = some (.deferred (some [])) → Q .normal { a with defers := { target := .collected w.heap.size, args := #[] } :: a.defers } W)
    (hstop : ∀ c W, Chg Z w W → Ix c W → W.heap[w.heap.size]? = some (.deferred (some [])) → c.wp Tryd.prog Q { a with defers := { target := .collected w.heap.size, args := #[] } :: a.defers } W) :
    (Code.rangeFunc g ps assign body).wp Tryd.prog Q a w := by
  refine (wpIn_wide (n := 3)).1 (wpIn_rangeFunc fun fn _ => ?_)
  obtain ⟨rec, hrec⟩ : ∃ rec : LoopState → Option Code → Loop, rec = fun st pe => { state := st, pending := pe, fn, tmps := a.tmps, params := ps, assign, body, defers := w.heap.size } := ⟨_, rfl⟩
  obtain ⟨W1, hW1⟩ : ∃ W1, (w.alloc (.deferred (some []))).alloc (.loop (rec .ready none)) = W1 := ⟨_, rfl⟩
  have hL1 : W1.heap[w.heap.size + 1]? = some (.loop (rec .ready none)) := by rw [← hW1]; exact at_new _ _ _ (by simp)
  have hK1 : W1.heap[w.heap.size]? = some (.deferred (some [])) := by rw [← hW1, at_old _ _ _ (by simp)]; exact at_new _ _ _ rfl
  have hs1 : W1.heap.size = w.heap.size + 2 := by rw [← hW1]; simp
  have hb1 : Below w.heap.size w W1 := by rw [← hW1]; exact ((Below.refl _ w).alloc (Nat.le_refl _) _).alloc (by simp) _
  refine ⟨w.heap.size + 1, [{ target := .collected w.heap.size, args := #[] }], W1, { target := .fn (.func 36) #[.pointer (some ⟨pb, 0, none⟩)], args := #[.func (.yield (w.heap.size + 1)) #[] #[]] }, W1, 36,
    #[.func (.yield (w.heap.size + 1)) #[] #[]] ++ #[.pointer (some ⟨pb, 0, none⟩)], W1, ?_, ?_, ?_, ?_, ?_, ?_⟩
  · rw [← hW1, hrec]; exact run_enterLoop_outer _ _ _ _ _
  · simp only [resolve, hg]
    simp [go_sem]
  · exact fun f' _ => trivial
  · simp [invoke, go_sem, enters_of Tryd.func36 (by kernel_rfl) rfl]
  · intro hd; simp [Fence.wide] at hd
  · have own : ∀ W W' : World, Chg (fun b => w.heap.size + 2 ≤ b ∧ b < w.heap.size + 4) W W' → Chg (fun b => w.heap.size ≤ b ∧ b < w.heap.size + 4) W W' := fun W W' h => h.mono fun b _ hb => ⟨by omega, hb.2⟩
    have ownL : ∀ W W' : World, Chg (fun b => b = w.heap.size + 1) W W' → Chg (fun b => w.heap.size ≤ b ∧ b < w.heap.size + 4) W W' := fun W W' h => h.mono fun b _ hb => by omega
    refine callsIn_wide.2 ((nodesT1_any (l := w.heap.size + 1) (Z := fun b => Z b ∨ b = w.heap.size + 1) (B0 := B0) (B1 := w.heap.size + 2)
      (J := fun k W => I k W ∧ Chg Z w W ∧ W.heap[w.heap.size + 1]? = some (.loop (rec .ready none)) ∧ W.heap[w.heap.size]? = some (.deferred (some [])))
      (X := fun W => ∃ c, Ix c W ∧ Chg Z w W ∧ W.heap[w.heap.size + 1]? = some (.loop (rec .done (some c))) ∧ W.heap[w.heap.size]? = some (.deferred (some [])))
      f ⟨?_, ?_, ?_, ?_⟩ hB b o pb A c W1 hs1 (by omega) (hf.keep (Keeps.of_below hb1 fun k (hk : k < B0) => by omega)) ?_ ⟨hI 0 w W1 h0 (Chg.of_new hb1), Chg.of_new hb1, hL1, hK1⟩).mono ?_)
    · rintro b (hb | hb)
      · have := hZ b hb; exact ⟨this.1, by omega⟩
      · omega
    · rintro k W W' ⟨hi, hc, hl, hk⟩ hw
      exact ⟨hI k W W' hi (own _ _ hw), hc.trans' hw fun b _ hb => by omega, hw.box hl (by omega), hw.box hk (by omega)⟩
    · rintro W W' ⟨c, hi, hc, hl, hk⟩ hw
      exact ⟨c, hIx c W W' hi (own _ _ hw), hc.trans' hw fun b _ hb => by omega, hw.box hl (by omega), hw.box hk (by omega)⟩
    · rintro k W b o A c hsz ⟨hi, hc, hl, hk⟩ hlen hfw
      have hlt : w.heap.size + 1 < W.heap.size := lt_of_block hl
      have hy := run_yield (P := Tryd.prog) (args := #[.pointer (some ⟨b, o, none⟩)]) hl (by rw [hrec]; exact hps.symm)
      rw [hrec] at hy
      refine ⟨fn, _, assign, body, hy, roundIn_of_wpIn trivial (hassign _ _ W _ ⟨_, run_beginRound hl (by rw [hrec]), ?_⟩)⟩
      obtain ⟨Wb, hWb⟩ : ∃ Wb, Wb = W.putObj (w.heap.size + 1) (.loop { rec .ready none with state := .busy }) := ⟨_, rfl⟩
      rw [← hWb]
      have hcb : Chg (fun b => b = w.heap.size + 1) W Wb := by rw [hWb]; exact Chg.putObj _ _ _
      have hl2 : Wb.heap[w.heap.size + 1]? = some (.loop { rec .ready none with state := .busy }) := by rw [hWb]; exact World.putObj_heap_same hlt
      have hk2 : Wb.heap[w.heap.size]? = some (.deferred (some [])) := hcb.box hk (by omega)
      have hsb : W.heap.size ≤ Wb.heap.size := hcb.size
      refine wpIn_mono (hround _ k Wb b o A c (by omega) (hc.trans' hcb fun b _ hb => by omega) (hI _ _ _ hi (ownL _ _ hcb)) hlen (hfw.keep (hcb.keeps fun k _ (hk : k < B0) => by omega))) ?_
      have fin : ∀ (jump : Option Code) (W3 : World), Chg Z Wb W3 →
          (Instr.endRound (w.heap.size + 1) jump).run Tryd.prog W3 = .ok (.bool jump.isNone) (W3.putObj (w.heap.size + 1) (.loop (rec (if jump.isNone then .ready else .done) jump))) ∧
          Chg (fun b => b = w.heap.size + 1) W3 (W3.putObj (w.heap.size + 1) (.loop (rec (if jump.isNone then .ready else .done) jump))) ∧
          Chg (fun b => Z b ∨ b = w.heap.size + 1) W (W3.putObj (w.heap.size + 1) (.loop (rec (if jump.isNone then .ready else .done) jump))) ∧
          Chg Z w (W3.putObj (w.heap.size + 1) (.loop (rec (if jump.isNone then .ready else .done) jump))) ∧
          (W3.putObj (w.heap.size + 1) (.loop (rec (if jump.isNone then .ready else .done) jump))).heap[w.heap.size + 1]? = some (.loop (rec (if jump.isNone then .ready else .done) jump)) ∧
          (W3.putObj (w.heap.size + 1) (.loop (rec (if jump.isNone then .ready else .done) jump))).heap[w.heap.size]? = some (.deferred (some [])) := fun jump W3 hc3 => by
        have hl3 := hc3.box hl2 (fun h => by have := hZ _ h; omega)
        have hk3 := hc3.box hk2 (fun h => by have := hZ _ h; omega)
        have hcp := Chg.putObj W3 (w.heap.size + 1) (.loop (rec (if jump.isNone then .ready else .done) jump))
        have hr := run_endRound (P := Tryd.prog) jump hl3
        rw [hrec] at hr hcp ⊢
        refine ⟨hr, hcp, ?_, ?_, World.putObj_heap_same (lt_of_block hl3), hcp.box hk3 (by omega)⟩
        · exact ((hcb.mono fun b _ hb => .inr hb).trans (hc3.mono fun b _ hb => .inl hb)).trans (hcp.mono fun b _ hb => .inr hb)
        · exact ((hc.trans' hcb fun b _ hb => by omega).trans hc3).trans' hcp fun b _ hb => by omega
      rintro e a3 W3 hp
      cases e with
      | normal =>
        obtain ⟨hc3, hi3⟩ := hp
        obtain ⟨hr, hcp, hcW, hcw, hl4, hk4⟩ := fin none W3 hc3
        exact ⟨_, _, hr, hcW, .inl ⟨rfl, hI _ _ _ hi3 (ownL _ _ hcp), hcw, hl4, hk4⟩⟩
      | ret =>
        obtain ⟨hc3, hi3⟩ := hp
        obtain ⟨hr, hcp, hcW, hcw, hl4, hk4⟩ := fin (some .ret) W3 hc3
        exact ⟨_, _, hr, hcW, .inr ⟨rfl, _, hIx _ _ _ hi3 (ownL _ _ hcp), hcw, hl4, hk4⟩⟩
      | exit id =>
        obtain ⟨hc3, hi3⟩ := hp
        obtain ⟨hr, hcp, hcW, hcw, hl4, hk4⟩ := fin (some (.exit id)) W3 hc3
        exact ⟨_, _, hr, hcW, .inr ⟨rfl, _, hIx _ _ _ hi3 (ownL _ _ hcp), hcw, hl4, hk4⟩⟩
      | goto t =>
        obtain ⟨hc3, hi3⟩ := hp
        obtain ⟨hr, hcp, hcW, hcw, hl4, hk4⟩ := fin (some (.goto t)) W3 hc3
        exact ⟨_, _, hr, hcW, .inr ⟨rfl, _, hIx _ _ _ hi3 (ownL _ _ hcp), hcw, hl4, hk4⟩⟩
      | panic ch => exact hp.elim
      | outgrown => exact hp.elim
    · exact (hb1.cell (p := ⟨pb, 0, none⟩) (World.block_lt_of_cell? w _ hp)).trans hp
    · rintro e W2 ⟨⟨v, rfl⟩, hc2, (⟨hi, hc, hl, hk⟩ | ⟨c, hi, hc, hl, hk⟩)⟩
      · refine ⟨none, _, by have := run_endLoop (P := Tryd.prog) hl (by rw [hrec]; simp); rw [hrec] at this; exact this, ?_⟩
        have hcp := Chg.putObj W2 (w.heap.size + 1) (.loop { rec .ready none with state := .exhausted })
        rw [hrec] at hcp
        exact hdone _ (hc.trans' hcp fun b _ hb => by omega) (hI _ _ _ hi (ownL _ _ hcp)) (hcp.box hk (by omega))
      · refine ⟨some c, _, by have := run_endLoop (P := Tryd.prog) hl (by rw [hrec]; simp); rw [hrec] at this; exact this, ?_⟩
        have hcp := Chg.putObj W2 (w.heap.size + 1) (.loop { rec .done (some c) with state := .exhausted })
        rw [hrec] at hcp
        exact wpIn_wide.2 (hstop c _ (hc.trans' hcp fun b _ hb => by omega) (hIx _ _ _ hi (ownL _ _ hcp)) (hcp.box hk (by omega)))
set_option maxHeartbeats 1000000 in
theorem nodesT_any (p : Option Addr) (w : World) :
    Calls Tryd.prog 24 #[.pointer p] w fun e w' => e = .returned (.func (.func 36) #[] #[.pointer (some ⟨w.heap.size, 0, none⟩)]) ∧ w' = w.alloc (.cells #[.pointer p] 57) := by
  have hmf : ∀ (fn : Fn) (first cap : Array Value) (w : World), (Instr.makeFunc fn first cap).run Tryd.prog w = .ok (.func fn first cap) w := fun _ _ _ _ => rfl
  go_enter Tryd.func24, Tryd.ntmps24
  go_wp2_with fail
  go_ret
  exact ⟨rfl, rfl⟩
end Go.Proofs.YtdakdpfofgkjoaaDoor
