/-
  Walk of the reference: Step.
-/
import Derived.Test.YthhknonaebnooaaZ17
set_option linter.unusedVariables false
set_option linter.unusedSimpArgs false
namespace Go.Proofs.Ythhknonaebnooaa
open Go.RowKit
theorem build_ev0 (w : World) : (Instr.build 31 #[]).run Try.prog w = .ok (.agg #[.slice none 0 0, .slice none 0 0]) w := run_build w 31 _ _ (by kernel_rfl)
theorem build_ev2 (A B : Option Addr) (n c m d : Nat) (w : World) : (Instr.build 31 #[(0, .slice A n c), (1, .slice B m d)]).run Try.prog w = .ok (.agg #[.slice A n c, .slice B m d]) w := run_build w 31 _ _ (by kernel_rfl)
theorem build_rn3 (x p : Int) (A : Option Addr) (n c : Nat) (w : World) : (Instr.build 43 #[(0, .int .i64 x), (1, .int .i64 p), (2, .slice A n c)]).run Try.prog w = .ok (.agg #[.int .i64 x, .int .i64 p, .slice A n c]) w := run_build w 43 _ _ (by kernel_rfl)
theorem build_rn2 (p : Int) (A : Option Addr) (n c : Nat) (w : World) : (Instr.build 43 #[(1, .int .i64 p), (2, .slice A n c)]).run Try.prog w = .ok (.agg #[.int .i64 0, .int .i64 p, .slice A n c]) w := run_build w 43 _ _ (by kernel_rfl)
attribute [local go_sem] cell_alloc_old build_ev0 build_ev2 build_rn3 build_rn2

/-- What the reference's Step returns. -/
def stepR (b : Bu) (t : List Nd) (a : Int) : StepR := if treeB b t = true ∧ 0 ≤ a ∧ a < b.letters then stepZ b t a else ⟨[], [], []⟩
theorem stepR_no {b : Bu} {t : List Nd} {a : Int} (h : ¬ (treeB b t = true ∧ 0 ≤ a ∧ a < b.letters)) : stepR b t a = ⟨[], [], []⟩ := if_neg h
theorem rs_below {X wr W9 w5 : World} {A : Option Addr} {n c : Nat} {xs : List Value} (hb : Below X.heap.size X wr) (hI : Below wr.heap.size wr W9) (o : Obj) (ho : wr.ownsRow X.heap.size 43 3 (.slice A n c) n xs) (hg : (W9.alloc o).grownBy w5 (Value.slice A n c).ownBlock) : Below X.heap.size X w5 := by
  have h1 : Below X.heap.size X (W9.alloc o) := (hb.trans (hI.mono hb.size)).trans ((Below.refl _ _).alloc (hb.trans (hI.mono hb.size)).size o)
  exact h1.grown hg h1.size (fun k hk => (ho.lt k hk).1)
theorem rs_ne {wr W9 : World} {B : Nat} {A : Option Addr} {n c : Nat} {xs : List Value} (ho : wr.ownsRow B 43 3 (.slice A n c) n xs) (hI : Below wr.heap.size wr W9) {o : Obj} {A9 : Option Addr} {c9 : Nat} {l : List Int} (hr : RdI W9 (fun j => wr.heap.size ≤ j) A9 c9 l) : RdI (W9.alloc o) (fun k => some k ≠ (Value.slice A n c).ownBlock) A9 c9 l :=
  (hr.keep ((Keeps.refl _ W9).alloc o)).mono fun k hk _ e => by have h1 := (ho.lt k e.symm).2; have hk : wr.heap.size ≤ k := hk; omega
theorem ON.alloc {B : Nat} {w : World} {A : Option Addr} {n c : Nat} {L : List Nd} {sl : List (Option Addr × Nat)} (h : ON B w A n c L sl) (o : Obj) : ON B (w.alloc o) A n c L sl := h.below ((Below.refl _ _).alloc (Nat.le_refl _) o)
/-- Rows of ints lie apart from a block without ints. -/
theorem RdI.apart {w : World} {D : Dom} {A : Option Addr} {c lb : Nat} {l : List Int} {cs : Array Value} {T : TypeId} {fr : Nat × Nat} (h : RdI w D A c l) (hl : w.heap[lb]? = some (.cells cs T fr)) (hc : ∀ u ∈ cs.toList, ∀ z, u ≠ .int .i64 z) : RdI w (fun k => D k ∧ k ≠ lb) A c l :=
  ⟨h.1, fun h0 => by
    obtain ⟨b, o, e, h1, h2, h3⟩ := h.2 h0
    refine ⟨b, o, e, ⟨h1, fun hb => ?_⟩, h2, h3⟩
    subst hb
    have h4 := h3 0 (.int .i64 (l.getD 0 0)) (by simp [List.getD, h0])
    rw [Nat.add_zero] at h4
    have h5 : cs[o]? = some (.int .i64 (l.getD 0 0)) := by
      simp only [World.cell?, hl] at h4
      simpa using h4
    have h6 : Value.int .i64 (l.getD 0 0) ∈ cs.toList := by
      have := Array.mem_of_getElem? h5
      simpa using this
    exact hc _ h6 _ rfl⟩
/-- A store into another block. -/
theorem ON.other {B : Nat} {w : World} {A : Option Addr} {n c lb i : Nat} {L : List Nd} {sl : List (Option Addr × Nat)} {cs : Array Value} {T : TypeId} (h : ON B w A n c L sl) (hl : w.heap[lb]? = some (.cells cs T (0, 0))) (hT : 43 ≠ T) (hc : ∀ u ∈ cs.toList, ∀ z, u ≠ .int .i64 z) (u : Value) : ON B (w.setCell ⟨lb, i, none⟩ u) A n c L sl :=
  ⟨h.len, h.num, ownsRow_setCell_other h.own (own_ne h.own hl hT) _, fun k hk => (((h.set k hk).apart hl hc).keep ((Keeps.refl _ w).set (fun hh => hh.2 rfl) _)).mono fun _ hh _ => hh.1⟩
theorem flags_set (N i : Nat) (fl : Nat → Bool) (hi : i < N) : (((List.range N).map fun j => Value.bool (decide (j < i) && fl j)).toArray).setIfInBounds i (.bool (fl i)) = ((List.range N).map fun j => Value.bool (decide (j < i + 1) && fl j)).toArray := by
  apply Array.toList_inj.1
  rw [Array.toList_setIfInBounds]
  apply List.ext_getElem
  · simp
  · intro j h1 h2
    simp only [List.length_map, List.length_range] at h2
    rw [List.getElem_set]
    by_cases e : i = j
    · subst e; simp
    · rw [if_neg e]
      simp only [List.getElem_toArray, List.getElem_map, List.getElem_range]
      have : decide (j < i) = decide (j < i + 1) := by
        by_cases hjk : j < i
        · rw [decide_eq_true hjk, decide_eq_true (by omega)]
        · rw [decide_eq_false hjk, decide_eq_false (by omega)]
      rw [this]
theorem grown_small (b : Bu) (t : List Nd) (a : Int) : ∀ i, i < 2 * t.length → (nd (grownZ b t a) i).set.length ≤ b.next.length := fun i hi => by
  rw [grownP_get b t a hi]
  unfold grownP
  split
  · exact reachTo_len b _ a false b.next.length
  · exact reachTo_len b _ a true b.next.length
theorem grown_old {b : Bu} {t : List Nd} {a : Int} {k : Nat} (hk : k < t.length) : (grownZ b t a).getD k default = { nd t k with set := reachZ b (nd t k).set a false } := by
  have := grownP_get b t a (i := k) (by omega)
  unfold grownP at this
  rw [if_pos hk] at this
  exact this
theorem grown_new {b : Bu} {t : List Nd} {a : Int} {k : Nat} (hk : k < t.length) : (grownZ b t a).getD (t.length + k) default = ⟨0, (k : Int), reachZ b (nd t k).set a true⟩ := by
  have := grownP_get b t a (i := t.length + k) (by omega)
  unfold grownP at this
  rw [if_neg (by omega), show t.length + k - t.length = k by omega] at this
  exact this
set_option maxRecDepth 100000 in
set_option maxHeartbeats 4000000 in
theorem rstep_any {D E : Dom} (v : Value) (b : Bu) (A : Option Addr) (c : Nat) (t : List Nd) (a : Int) (w : World) (h : RdBu w D v b) (ht : RdN w E A c t) (hf : fewB b = true) (hsm : smallTB t = true) :
    Calls Try.prog 13 #[v, .slice A t.length c, .int .i64 a] w fun e w' => ∃ (A1 AG AB : Option Addr) (c1 cG cB : Nat), e = .returned (.tuple #[.slice A1 (stepR b t a).tree.length c1, .agg #[.slice AG (stepR b t a).good.length cG, .slice AB (stepR b t a).bad.length cB]]) ∧ Below w.heap.size w w' ∧
      RdN w' Any A1 c1 (stepR b t a).tree ∧ RdI w' Any AG cG (stepR b t a).good ∧ RdI w' Any AB cB (stepR b t a).bad := by
  obtain ⟨i0, hti, hz0, hz1, hz2⟩ := info_parts int_info
  obtain ⟨i1, htn, hy0, hy1, hy2⟩ := info_parts anode_info
  obtain ⟨i2, htb, hx0, hx1, hx2⟩ := info_parts bool_info
  have hx2' : i2.bytes = 1 := hx2
  have HV := hid h.old
  have HT := hid ht.old
  have htl := ht.len.1
  have HF := hid hf
  have HSM := hid (small_sizes hsm)
  obtain ⟨As, cs, An, cn, rfl, hs, hn⟩ := h
  clear hs hn ht hf hsm
  go_enter Try.func13, Try.ntmps13
  go_upto_region 1 with (fail)
  refine wp_gen fun W hW => ?_
  obtain ⟨w1, h1⟩ : ∃ w1, w1 = w.alloc (.cells #[.int .i64 b.letters, .slice As b.start.length cs, .slice An b.next.length cn] 25) := ⟨_, rfl⟩
  have s1 : w1.heap.size = w.heap.size + 1 := by rw [h1]; simp
  have m1 : HasB w1 w.heap.size #[.int .i64 b.letters, .slice As b.start.length cs, .slice An b.next.length cn] b := by rw [h1]; exact HasB.new HV.out
  have b1 : Below w.heap.size w w1 := by rw [h1]; go_grown
  rw [← h1] at hW
  have b2 : Below w1.heap.size w1 W := by rw [hW]; go_grown
  have HB := hid (m1.below b2)
  have hev : W.heap[w.heap.size + 1]? = some (.cells #[.slice none 0 0, .slice none 0 0] 31 (0, 0)) := by rw [hW, ← s1]; exact heap_alloc_new w1 _
  have HEV := hid hev
  have HBW := hid (b1.trans (b2.mono b1.size))
  have HTW := hid (HT.out.any HBW.out)
  clear hW h1 s1 m1 b1 b2 hev
  obtain ⟨o0, o1, o2, ol⟩ := HB.out.cells
  go_wp2_with fail
  refine (rtvalid_any _ b A c t W HB.out.rd HTW.out (by have := HSM.out.1; omega) (fun k hk => by have := HSM.out.2 k hk; omega)).mono ?_
  rintro e W4 ⟨rfl, hb⟩
  have HEV := hid ((hb.block _ (lt_of_block HEV.out)).trans HEV.out)
  have HB := hid (HB.out.below hb)
  have HT4 := hid (HTW.out.any hb)
  have HBW := hid (HBW.out.trans (hb.mono HBW.out.size))
  clear hb o0 o1 o2 ol
  obtain ⟨o0, o1, o2, ol⟩ := HB.out.cells
  have hel := lt_of_block HEV.out
  have e0 := block_cell HEV.out (i := 0) rfl
  have e1 := block_cell HEV.out (i := 1) rfl
  have ef0 := block_free HEV.out (i := 0)
  have ef1 := block_free HEV.out (i := 1)
  by_cases hv : treeB b t = true
  rotate_left
  · have hv : treeB b t = false := by simpa using hv
    have HNO := hid (stepR_no (a := a) (b := b) (t := t) (fun hh => by rw [hv] at hh; exact absurd hh.1 (by decide)))
    go_wp2_with fail
    refine bodyPost_gen fun W9 hW9 => ?_
    have hb9 : Below w.heap.size w W9 := by rw [hW9]; first | exact HBW.out | (exact below_set (below_set HBW.out (by omega) _) (by omega) _)
    have he9 : W9.heap[w.heap.size + 1]? = some (.cells #[.slice none 0 0, .slice none 0 0] 31 (0, 0)) := by rw [hW9]; exact set_block (set_block HEV.out _) _
    have r0 := block_cell he9 (i := 0) rfl
    have r1 := block_cell he9 (i := 1) rfl
    clear hW9
    exact bodyPost_ret (v := .tuple #[.slice none 0 0, .agg #[.slice none 0 0, .slice none 0 0]]) (by simp [results, Try.results13, go_sem, r0, r1]) rfl ⟨none, none, none, 0, 0, 0, by rw [HNO.out]; rfl, hb9, by rw [HNO.out]; exact RdN.nil _ _ _ (by omega), by rw [HNO.out]; exact RdI.nil _ _ _ (by omega), by rw [HNO.out]; exact RdI.nil _ _ _ (by omega)⟩

  by_cases ha0 : a < 0
  · have hd0 : decide (a < 0) = true := decide_eq_true ha0
    have HNO := hid (stepR_no (a := a) (b := b) (t := t) (fun hh => by omega))
    go_wp2_with fail
    refine bodyPost_gen fun W9 hW9 => ?_
    have hb9 : Below w.heap.size w W9 := by rw [hW9]; first | exact HBW.out | (exact below_set (below_set HBW.out (by omega) _) (by omega) _)
    have he9 : W9.heap[w.heap.size + 1]? = some (.cells #[.slice none 0 0, .slice none 0 0] 31 (0, 0)) := by rw [hW9]; exact set_block (set_block HEV.out _) _
    have r0 := block_cell he9 (i := 0) rfl
    have r1 := block_cell he9 (i := 1) rfl
    clear hW9
    exact bodyPost_ret (v := .tuple #[.slice none 0 0, .agg #[.slice none 0 0, .slice none 0 0]]) (by simp [results, Try.results13, go_sem, r0, r1]) rfl ⟨none, none, none, 0, 0, 0, by rw [HNO.out]; rfl, hb9, by rw [HNO.out]; exact RdN.nil _ _ _ (by omega), by rw [HNO.out]; exact RdI.nil _ _ _ (by omega), by rw [HNO.out]; exact RdI.nil _ _ _ (by omega)⟩

  by_cases ha1 : b.letters ≤ a
  · have hd0 : decide (a < 0) = false := decide_eq_false ha0
    have hd1 : decide (b.letters ≤ a) = true := decide_eq_true ha1
    have HNO := hid (stepR_no (a := a) (b := b) (t := t) (fun hh => by omega))
    go_wp2_with fail
    refine bodyPost_gen fun W9 hW9 => ?_
    have hb9 : Below w.heap.size w W9 := by rw [hW9]; first | exact HBW.out | (exact below_set (below_set HBW.out (by omega) _) (by omega) _)
    have he9 : W9.heap[w.heap.size + 1]? = some (.cells #[.slice none 0 0, .slice none 0 0] 31 (0, 0)) := by rw [hW9]; exact set_block (set_block HEV.out _) _
    have r0 := block_cell he9 (i := 0) rfl
    have r1 := block_cell he9 (i := 1) rfl
    clear hW9
    exact bodyPost_ret (v := .tuple #[.slice none 0 0, .agg #[.slice none 0 0, .slice none 0 0]]) (by simp [results, Try.results13, go_sem, r0, r1]) rfl ⟨none, none, none, 0, 0, 0, by rw [HNO.out]; rfl, hb9, by rw [HNO.out]; exact RdN.nil _ _ _ (by omega), by rw [HNO.out]; exact RdI.nil _ _ _ (by omega), by rw [HNO.out]; exact RdI.nil _ _ _ (by omega)⟩

  have hd0 : decide (a < 0) = false := decide_eq_false ha0
  have hd1 : decide (b.letters ≤ a) = false := decide_eq_false ha1
  have HYES := hid (show stepR b t a = stepZ b t a from if_pos ⟨hv, by omega, by omega⟩)
  have HL := hid (show 0 ≤ a ∧ a < b.letters from ⟨by omega, by omega⟩)
  obtain ⟨hbb, htb', htr⟩ := treeB_all hv
  have HTR := hid hv
  have HBB := hid hbb
  have HTA := hid htr
  have hn10 := few_len HF.out
  have ht20 := HSM.out.1
  obtain ⟨G, hG⟩ : ∃ G, G = grownZ b t a := ⟨_, rfl⟩
  have hGl : G.length = 2 * t.length := by rw [hG, grown_len]
  have HG := hid hG
  clear hv hbb htb' htr hG
  obtain ⟨X, hX⟩ : ∃ X, X = W4 := ⟨_, rfl⟩
  rw [← hX] at HEV HB HT4 HBW o0 o1 o2 ol hel e0 e1 ef0 ef1 ⊢
  clear hX
  go_upto_region 4 with (fail)
  refine wp_gen fun W5 hW5 => ?_
  have hb5 : Below X.heap.size X W5 := by rw [hW5]; go_grown
  have hon5 : ON X.heap.size W5 (some ⟨X.heap.size, 0, none⟩) 0 0 (G.take 0) [] := by rw [hW5]; exact ON.nil X
  have HB5 := hid hb5
  have HON5 := hid hon5
  clear hW5 hb5 hon5 o0 o1 o2 e0 e1 ef0 ef1
  go_wp2_with fail
  go_loopw [8, 9] (fun s q wr => ∃ (k : Nat) (A' : Option Addr) (c' : Nat) (sl : List (Option Addr × Nat)), k ≤ t.length ∧ q = .int .i64 (k : Int) ∧ s = .slice A' k c' ∧ Below X.heap.size X wr ∧ ON X.heap.size wr A' k c' (G.take k) sl) (fun _ q _ => t.length - (intOf q).toNat)
  case atStart => exact ⟨0, _, 0, [], Nat.zero_le _, rfl, rfl, HB5.out, HON5.out⟩
  case round =>
    obtain ⟨k, A', c', sl, hk, rfl, rfl, hb, hon⟩ := hrel
    have HBR := hid hb
    have HON := hid hon
    have hszr := hb.size
    have HBX := hid (HB.out.below hb)
    clear hb hon
    by_cases hlt : k < t.length
    · skip
      --<<
      have hki : (k : Int) < t.length := by omega
      obtain ⟨o0, o1, o2, ol2⟩ := HBX.out.cells
      obtain ⟨g, o, A2, c2, x, rfl, _, hgl, HX, hr, h0, h1, h2⟩ := HT4.out.get hlt
      have hnd : nd t k = x := HX.out
      have hxs := tree_small HTA.out hlt
      rw [hnd] at hxs
      have HXS := hid hxs
      have HRX := hid (hr.any HBR.out)
      have HND := hid hnd
      have HCALL : Hid (∀ W', Below wr.heap.size wr W' → Calls Try.prog 24 #[.agg #[.int .i64 b.letters, .slice As b.start.length cs, .slice An b.next.length cn], .slice A2 x.set.length c2, .int .i64 a, .bool false] W' fun e W'' => ∃ (A6 : Option Addr) (c6 : Nat), e = .returned (.slice A6 (reachZ b x.set a false).length c6) ∧ Below wr.heap.size wr W'' ∧ RdI W'' (fun j => wr.heap.size ≤ j) A6 c6 (reachZ b x.set a false)) := hid fun W' hb => by
        refine (reached_any _ b A2 c2 x.set a false W' (HBX.out.below hb).rd (HRX.out.any hb) HBB.out HXS.out HL.out.1 HL.out.2).mono ?_
        rintro e W'' ⟨A6, c6, rfl, h1, h2⟩
        exact ⟨A6, c6, rfl, hb.trans (h1.mono hb.size), h2.mono fun j hj _ => Nat.le_trans hb.size hj⟩
      have HK0 : Hid (∀ W' : World, Below X.heap.size X W' → W'.cell? ⟨w.heap.size, 0, none⟩ = some (.int .i64 b.letters) ∧ W'.cell? ⟨w.heap.size, 1, none⟩ = some (.slice As b.start.length cs) ∧ W'.cell? ⟨w.heap.size, 2, none⟩ = some (.slice An b.next.length cn) ∧ W'.cell? ⟨g, o + k * 3, none⟩ = some (.int .i64 x.name) ∧ W'.cell? ⟨g, o + k * 3 + 1, none⟩ = some (.int .i64 x.parent) ∧ W'.cell? ⟨g, o + k * 3 + 2, none⟩ = some (.slice A2 x.set.length c2)) := hid fun W' hb => by
        obtain ⟨o0, o1, o2, _⟩ := (HB.out.below hb).cells
        exact ⟨o0, o1, o2, (hb.cell (p := ⟨g, o + k * 3, none⟩) hgl).trans h0, (hb.cell (p := ⟨g, o + k * 3 + 1, none⟩) hgl).trans h1, (hb.cell (p := ⟨g, o + k * 3 + 2, none⟩) hgl).trans h2⟩
      obtain ⟨o0, o1, o2, h0, h1, h2⟩ := HK0.out wr HBR.out
      have HI1 := hid (show Below wr.heap.size wr wr.drew from (Below.refl _ _).drew)
      have HI2 := hid (show ∀ i, Below wr.heap.size wr (wr.drewN i) from fun i => (Drawn.n wr i).below _)
      clear hr hnd hxs
      go_upto_region 7 with (fail)
      go_region_held3 (fun W' : World => W'.cell? ⟨w.heap.size, 0, none⟩ = some (.int .i64 b.letters) ∧ W'.cell? ⟨w.heap.size, 1, none⟩ = some (.slice As b.start.length cs) ∧ W'.cell? ⟨w.heap.size, 2, none⟩ = some (.slice An b.next.length cn) ∧ W'.cell? ⟨g, o + k * 3, none⟩ = some (.int .i64 x.name) ∧ W'.cell? ⟨g, o + k * 3 + 1, none⟩ = some (.int .i64 x.parent) ∧ W'.cell? ⟨g, o + k * 3 + 2, none⟩ = some (.slice A2 x.set.length c2))
        (first | (with_reducible exact HK0.out _ (HBR.out.trans (hI.mono HBR.out.size))) | (with_reducible exact HK0.out _ hbx5) | (go_keep; done))
        (first
          | (go_at_call 24; refine (HCALL.out _ (by first | exact HI1.out | exact HI2.out _)).mono ?_; rintro e W9 ⟨A9, c9, rfl, hI, hr9⟩)
          | (refine step_append_rd _ (by rfl) _ _ 26 (by rfl) X.heap.size 43 i1 _ 3 40 Try.underlying26 htn hy0 hy1 hy2 rfl (by omega) (.slice A' (k) c') (k) _ (by rfl) ((own_below HON.out.own hI).alloc _) _ (some ⟨W9.heap.size, 0, none⟩) 1 1 _ (by rfl) (Rd.fresh (D := fun _ => True) rfl trivial rfl (by omega)) (by simp [Value.oneCell']) (by omega) (maxLen_le (by omega)) (by have := hI.size; simp; omega) ?_
             intro A5 c5 w5 hown5 hg5 hat5
             have hbx5 : Below X.heap.size X w5 := rs_below HBR.out hI _ HON.out.own hg5))
      all_goals
        have hon5 := ((HON.out.below hI).alloc _).snoc hg5 (x := { x with set := reachZ b x.set a false }) (s := (A9, c9)) hown5 hat5 (rs_ne HON.out.own hI hr9)
        have HON5 := hid hon5
        have HBX5 := hid hbx5
        clear hown5 hg5 hat5 hon5 hbx5 hI hr9 o0 o1 o2 h0 h1 h2
        go_wp2_with fail
        go_roundw
        case rel =>
          refine ⟨k + 1, A5, c5, sl ++ [(A9, c9)], by omega, by go_num, rfl, HBX5.out, ?_⟩
          have e : G.take (k + 1) = G.take (k) ++ [{ x with set := reachZ b x.set a false }] := by
            rw [take_succ_getD G default (show k < G.length by omega), HG.out, grown_old hlt, HND.out]
          skip
          rw [e]
          exact HON5.out
        case measure => simp [intOf]; omega
-->>
    · obtain rfl : k = t.length := by omega
      clear HBX
      go_wp2_with fail
      go_loopw [8, 10] (fun s q wr => ∃ (k : Nat) (A' : Option Addr) (c' : Nat) (sl : List (Option Addr × Nat)), k ≤ t.length ∧ q = .int .i64 (k : Int) ∧ s = .slice A' (t.length + k) c' ∧ Below X.heap.size X wr ∧ ON X.heap.size wr A' (t.length + k) c' (G.take (t.length + k)) sl) (fun _ q _ => t.length - (intOf q).toNat)
      case atStart => exact ⟨0, A', c', sl, Nat.zero_le _, rfl, rfl, HBR.out, HON.out⟩
      case round =>
        obtain ⟨k, A', c', sl, hk, rfl, rfl, hb, hon⟩ := hrel
        have HBR := hid hb
        have HON := hid hon
        have hszr := hb.size
        have HBX := hid (HB.out.below hb)
        clear hb hon
        by_cases hlt : k < t.length
        · skip
          --<<
          have hki : (k : Int) < t.length := by omega
          obtain ⟨o0, o1, o2, ol2⟩ := HBX.out.cells
          obtain ⟨g, o, A2, c2, x, rfl, _, hgl, HX, hr, h0, h1, h2⟩ := HT4.out.get hlt
          have hnd : nd t k = x := HX.out
          have hxs := tree_small HTA.out hlt
          rw [hnd] at hxs
          have HXS := hid hxs
          have HRX := hid (hr.any HBR.out)
          have HND := hid hnd
          have HCALL : Hid (∀ W', Below wr.heap.size wr W' → Calls Try.prog 24 #[.agg #[.int .i64 b.letters, .slice As b.start.length cs, .slice An b.next.length cn], .slice A2 x.set.length c2, .int .i64 a, .bool true] W' fun e W'' => ∃ (A6 : Option Addr) (c6 : Nat), e = .returned (.slice A6 (reachZ b x.set a true).length c6) ∧ Below wr.heap.size wr W'' ∧ RdI W'' (fun j => wr.heap.size ≤ j) A6 c6 (reachZ b x.set a true)) := hid fun W' hb => by
            refine (reached_any _ b A2 c2 x.set a true W' (HBX.out.below hb).rd (HRX.out.any hb) HBB.out HXS.out HL.out.1 HL.out.2).mono ?_
            rintro e W'' ⟨A6, c6, rfl, h1, h2⟩
            exact ⟨A6, c6, rfl, hb.trans (h1.mono hb.size), h2.mono fun j hj _ => Nat.le_trans hb.size hj⟩
          have HK0 : Hid (∀ W' : World, Below X.heap.size X W' → W'.cell? ⟨w.heap.size, 0, none⟩ = some (.int .i64 b.letters) ∧ W'.cell? ⟨w.heap.size, 1, none⟩ = some (.slice As b.start.length cs) ∧ W'.cell? ⟨w.heap.size, 2, none⟩ = some (.slice An b.next.length cn) ∧ W'.cell? ⟨g, o + k * 3, none⟩ = some (.int .i64 x.name) ∧ W'.cell? ⟨g, o + k * 3 + 1, none⟩ = some (.int .i64 x.parent) ∧ W'.cell? ⟨g, o + k * 3 + 2, none⟩ = some (.slice A2 x.set.length c2)) := hid fun W' hb => by
            obtain ⟨o0, o1, o2, _⟩ := (HB.out.below hb).cells
            exact ⟨o0, o1, o2, (hb.cell (p := ⟨g, o + k * 3, none⟩) hgl).trans h0, (hb.cell (p := ⟨g, o + k * 3 + 1, none⟩) hgl).trans h1, (hb.cell (p := ⟨g, o + k * 3 + 2, none⟩) hgl).trans h2⟩
          obtain ⟨o0, o1, o2, h0, h1, h2⟩ := HK0.out wr HBR.out
          have HI1 := hid (show Below wr.heap.size wr wr.drew from (Below.refl _ _).drew)
          have HI2 := hid (show ∀ i, Below wr.heap.size wr (wr.drewN i) from fun i => (Drawn.n wr i).below _)
          clear hr hnd hxs
          go_upto_region 11 with (fail)
          go_region_held3 (fun W' : World => W'.cell? ⟨w.heap.size, 0, none⟩ = some (.int .i64 b.letters) ∧ W'.cell? ⟨w.heap.size, 1, none⟩ = some (.slice As b.start.length cs) ∧ W'.cell? ⟨w.heap.size, 2, none⟩ = some (.slice An b.next.length cn) ∧ W'.cell? ⟨g, o + k * 3, none⟩ = some (.int .i64 x.name) ∧ W'.cell? ⟨g, o + k * 3 + 1, none⟩ = some (.int .i64 x.parent) ∧ W'.cell? ⟨g, o + k * 3 + 2, none⟩ = some (.slice A2 x.set.length c2))
            (first | (with_reducible exact HK0.out _ (HBR.out.trans (hI.mono HBR.out.size))) | (with_reducible exact HK0.out _ hbx5) | (go_keep; done))
            (first
              | (go_at_call 24; refine (HCALL.out _ (by first | exact HI1.out | exact HI2.out _)).mono ?_; rintro e W9 ⟨A9, c9, rfl, hI, hr9⟩)
              | (refine step_append_rd _ (by rfl) _ _ 26 (by rfl) X.heap.size 43 i1 _ 3 40 Try.underlying26 htn hy0 hy1 hy2 rfl (by omega) (.slice A' (t.length + k) c') (t.length + k) _ (by rfl) ((own_below HON.out.own hI).alloc _) _ (some ⟨W9.heap.size, 0, none⟩) 1 1 _ (by rfl) (Rd.fresh (D := fun _ => True) rfl trivial rfl (by omega)) (by simp [Value.oneCell']) (by omega) (maxLen_le (by omega)) (by have := hI.size; simp; omega) ?_
                 intro A5 c5 w5 hown5 hg5 hat5
                 have hbx5 : Below X.heap.size X w5 := rs_below HBR.out hI _ HON.out.own hg5))
          all_goals
            have hon5 := ((HON.out.below hI).alloc _).snoc hg5 (x := ⟨0, (k : Int), reachZ b x.set a true⟩) (s := (A9, c9)) hown5 hat5 (rs_ne HON.out.own hI hr9)
            have HON5 := hid hon5
            have HBX5 := hid hbx5
            clear hown5 hg5 hat5 hon5 hbx5 hI hr9 o0 o1 o2 h0 h1 h2
            go_wp2_with fail
            go_roundw
            case rel =>
              refine ⟨k + 1, A5, c5, sl ++ [(A9, c9)], by omega, by go_num, rfl, HBX5.out, ?_⟩
              have e : G.take (t.length + k + 1) = G.take (t.length + k) ++ [⟨0, (k : Int), reachZ b x.set a true⟩] := by
                rw [take_succ_getD G default (show t.length + k < G.length by omega), HG.out, grown_new hlt, HND.out]
              rw [show t.length + (k + 1) = t.length + k + 1 by omega]
              rw [e]
              exact HON5.out
            case measure => simp [intOf]; omega
-->>
        · obtain rfl : k = t.length := by omega
          have hon := HON.out
          rw [List.take_of_length_le (show G.length ≤ t.length + t.length by omega)] at hon
          obtain ⟨N, hN⟩ : ∃ N, N = t.length + t.length := ⟨_, rfl⟩
          rw [← hN] at hon ⊢
          have hNG : N = G.length := by omega
          have HONG := hid hon
          have HNG := hid hNG
          obtain ⟨fl, hfl⟩ : ∃ fl : Nat → Bool, fl = fun j => decide (0 < (nd (trimTo G G.length) j).set.length) := ⟨_, rfl⟩
          have HFL := hid hfl
          have hmk := run_make_zrow (P := Try.prog) 73 4 i2 (.bool false) 1 Try.underlying73 htb hx0 hx1 hx2 rfl .i64 .i64 N (by omega) (by omega)
          have hN40 : N ≤ 40 := by omega
          have HUP := hid (grown_Up (a := a) HTR.out)
          have HUP0 := hid (fun (i : Nat) (hi : i < 2 * t.length) => grown_up0 (a := a) HTR.out hi)
          rw [← HG.out] at HUP HUP0
          have hsub := grown_small b t a
          rw [← HG.out] at hsub
          have HSUB := hid hsub
          clear hon hfl hN hNG HBX hsub
          go_upto_region 13 with (fail)
          refine wp_gen fun W6 hW6 => ?_
          have hb6 : Below wr.heap.size wr W6 := by rw [hW6]; go_grown
          have hlf : W6.heap[wr.heap.size]? = some (.cells ((List.range N).map fun j => Value.bool (decide (j < 0) && fl j)).toArray 4 (0, 0)) := by
            rw [hW6, heap_alloc_new]
            unfold zrow
            congr 2
            apply Array.toList_inj.1
            simp [List.map_const']
          obtain ⟨lb, hlb⟩ : ∃ lb, lb = wr.heap.size := ⟨_, rfl⟩
          rw [← hlb] at hlf ⊢
          have HLF := hid hlf
          have HB6 := hid (HBR.out.trans (hb6.mono hszr))
          have HON6 := hid (HONG.out.below hb6)
          have hlbX : X.heap.size ≤ lb := by omega
          clear hW6 hb6 hlf hmk hlb
          go_wp2_with fail
          go_loopw [12] (fun q wr => ∃ (i : Nat) (sl : List (Option Addr × Nat)), i ≤ N ∧ q = .int .i64 (i : Int) ∧ Below X.heap.size X wr ∧ ON X.heap.size wr A' N c' (trimTo G i) sl ∧ wr.heap[lb]? = some (.cells ((List.range N).map fun j => Value.bool (decide (j < i) && fl j)).toArray 4 (0, 0))) (fun q _ => N - (intOf q).toNat)
          case atStart => exact ⟨0, sl, Nat.zero_le _, rfl, HB6.out, HON6.out, HLF.out⟩
          case round =>
            obtain ⟨i, sl, hi, rfl, hb, hon, hlf⟩ := hrel
            have HBR := hid hb
            have HON := hid hon
            have HLF := hid hlf
            have hszr := hb.size
            have hlbl := lt_of_block hlf
            have hTl := trimTo_len G i
            clear hb hon hlf
            by_cases hlt : i < N
            · have hii : (i : Int) < N := by omega
              have hiG : i < G.length := by rw [← HNG.out]; exact hlt
              obtain ⟨g, rfl, hgX, hgl⟩ := HON.out.form (by omega)
              have hlate := trim_late G (Nat.le_refl i) hiG
              have HTRM := hid (trimmed_any (some ⟨g, 0, none⟩) c' (trimTo G i) i wr (HON.out.rd (by omega)) (by omega) (fun h0 => by rw [hlate, hTl]; have := (HUP0.out i (by omega)).2 (by omega); omega) (by omega) (by rw [hlate]; have := HSUB.out i (by omega); omega))
              rw [hTl, ← HNG.out] at HTRM
              have HLATE := hid hlate
              clear hlate
              go_wp2_with fail
              refine HTRM.out.mono ?_
              rintro e W9 ⟨A9, c9, rfl, hb9, hr9⟩
              have HON9 := hid (HON.out.below hb9)
              have HLF9 := hid ((hb9.block _ hlbl).trans HLF.out)
              have HBX9 := hid (HBR.out.trans (hb9.mono hszr))
              have hr9' : RdI W9 (fun k => some k ≠ some g) A9 c9 (trimmedZ (trimTo G i) i) := hr9.mono fun k hk _ e => by have := Option.some.inj e; have hk : wr.heap.size ≤ k := hk; omega
              have HR9 := hid hr9'
              obtain ⟨z1, z2⟩ := HON9.out.at (k := i) (j := 2) (by omega) (by omega)
              have z1 : W9.cell? ⟨g, i * 3 + 2, none⟩ = some (.slice (sl.getD i (none, 0)).1 (nd (trimTo G i) i).set.length (sl.getD i (none, 0)).2) := z1
              clear hb9 hr9 hr9'
              go_upto_region 17 with (fail)
              refine wp_gen fun W10 hW10 => ?_
              have hon10 := HON9.out.write (k := i) (j := 2) (by omega) (by omega) (.slice A9 (trimmedZ (trimTo G i) i).length c9) { nd (trimTo G i) i with set := trimmedZ (trimTo G i) i } (A9, c9) rfl HR9.out
              rw [← hW10] at hon10
              have hT1 : (trimTo G i).set i { nd (trimTo G i) i with set := trimmedZ (trimTo G i) i } = trimTo G (i + 1) := rfl
              rw [hT1] at hon10
              have hlf10 : W10.heap[lb]? = some (.cells ((List.range N).map fun j => Value.bool (decide (j < i) && fl j)).toArray 4 (0, 0)) := by
                rw [hW10]; exact (Below.heap_setCell _ _ _ _ (fun e => own_ne HON9.out.own HLF9.out (by decide) (by rw [e]; rfl))).trans HLF9.out
              have HB10 := hid (show Below X.heap.size X W10 by rw [hW10]; exact below_set HBX9.out hgX _)
              have HON10 := hid hon10
              have HLF10 := hid hlf10
              have hnd1 : (nd (trimTo G (i + 1)) i).set = trimmedZ (trimTo G i) i := by rw [← hT1]; unfold nd; simp [List.getD, hTl, hiG]
              have hfli : fl i = decide (0 < (trimmedZ (trimTo G i) i).length) := by rw [HFL.out]; show decide (0 < (nd (trimTo G G.length) i).set.length) = _; rw [trim_own G hiG]
              have y1 : W10.cell? ⟨g, i * 3 + 2, none⟩ = some (.slice A9 (trimmedZ (trimTo G i) i).length c9) := by
                have := (hon10.at (k := i) (j := 2) (by rw [trimTo_len]; omega) (by omega)).1
                rw [this]
                show some (Value.slice (((sl.set i (A9, c9)).getD i (none, 0)).1) _ (((sl.set i (A9, c9)).getD i (none, 0)).2)) = _
                have e5 : (sl.set i (A9, c9)).getD i (none, 0) = (A9, c9) := by have := HON9.out.len; simp [List.getD, show i < sl.length by omega]
                rw [e5, hnd1]
              have u1 := block_cell hlf10 (i := i) (u := .bool (decide (i < i) && fl i)) (by simp [hlt])
              have u2 := block_free hlf10 (i := i)
              obtain ⟨m, hm⟩ : ∃ m, m = (trimmedZ (trimTo G i) i).length := ⟨_, rfl⟩
              rw [← hm] at y1 hfli
              have HFI := hid hfli
              clear hW10 hon10 hlf10 hT1 hnd1 z1 z2 hm hfli
              go_upto_region 15 with (fail)
              refine wp_gen fun W11 hW11 => ?_
              have hset : (((List.range N).map fun j => Value.bool (decide (j < i) && fl j)).toArray).setIfInBounds i (.bool (fl i)) = ((List.range N).map fun j => Value.bool (decide (j < i + 1) && fl j)).toArray := flags_set N i fl hlt
              have HON11 := hid (show ON X.heap.size W11 (some ⟨g, 0, none⟩) N c' (trimTo G (i + 1)) (sl.set i (A9, c9)) by
                rw [hW11]; exact HON10.out.other HLF10.out (by decide) (fun u hu z => by simp at hu; obtain ⟨_, _, rfl⟩ := hu; simp) _)
              have HLF11 := hid (show W11.heap[lb]? = some (.cells ((List.range N).map fun j => Value.bool (decide (j < i + 1) && fl j)).toArray 4 (0, 0)) by
                rw [hW11, set_block HLF10.out, ← hset, HFI.out])
              have HB11 := hid (show Below X.heap.size X W11 by rw [hW11]; exact below_set HB10.out hlbX _)
              clear hW11 hset y1 u1 u2
              go_wp2_with fail
              go_roundw
              case rel => exact ⟨i + 1, _, by omega, by go_num, HB11.out, HON11.out, HLF11.out⟩
              case measure => simp [intOf]; omega
            · obtain rfl : i = N := by omega
              obtain ⟨L, hL⟩ : ∃ L, L = trimTo G G.length := ⟨_, rfl⟩
              have hTN : trimTo G i = L := by rw [hL, ← HNG.out]
              rw [hTN] at HON hTl
              have hiL : i = L.length := by have := HNG.out; omega
              have hm : ((List.range i).map fun j => Value.bool (decide (j < i) && fl j)) = (List.range i).map fun j => Value.bool (fl j) := by
                refine List.map_congr_left fun j hj => ?_
                rw [decide_eq_true (List.mem_range.1 hj), Bool.true_and]
              have hlf := HLF.out
              rw [hm] at hlf
              have hrdf := rdf_of hlf (by omega)
              have hLL : listL b t a = L := by unfold listL; rw [← HG.out, hL, hGl]
              have hfl : fl = fun j => decide (0 < (nd L j).set.length) := by rw [HFL.out, hL]
              have hup : Up L := by rw [← hLL]; exact listL_Up HTR.out
              have hcl : Closed L fl := by
                intro j hj hmj h0
                rw [hfl] at hmj ⊢
                simp only [decide_eq_true_eq] at hmj ⊢
                have hj2 : j < 2 * t.length := by omega
                have hlam := listL_lam (a := a) HTR.out
                rw [hLL] at hlam
                have hj0 : 0 < j := by
                  rcases Nat.eq_zero_or_pos j with e | e
                  · subst e
                    have := hup 0 (by omega)
                    omega
                  · exact e
                obtain ⟨x, hx⟩ := List.exists_mem_of_length_pos hmj
                exact List.length_pos_of_mem (hlam.sub j hj2 hj0 x hx)
              have hok : FOk 3000 10000 (keepZ L fl) := keep_ok ⟨hup, by omega, fun k hk => by
                have h1 := (trimTo_sub G G.length (Nat.le_refl _) k).1.length_le
                rw [← hL] at h1
                have h2 := HSUB.out k (by omega)
                omega⟩ hcl
              have hkl : (keepZ L fl).length ≤ 10000 := hok.len
              have hstep : stepZ b t a = ⟨(nameTo (namesZ t) (flashZ (keepZ L fl)).1 (flashZ (keepZ L fl)).1.length).1, sortZ (flashZ (keepZ L fl)).2, sortZ ((namesZ t).filter (badQ (flashZ (keepZ L fl)).1))⟩ := by
                unfold stepZ
                simp only
                rw [← HG.out, ← hGl, ← hL, hfl]
                rfl
              have HST := hid (HYES.out.trans hstep)
              obtain ⟨K, hK⟩ : ∃ K, K = keepZ L fl := ⟨_, rfl⟩
              have hlen := flashTo_ok hok (keepZ L fl).length
              have hglen := flashTo_glen (keepZ L fl) (keepZ L fl).length
              have hnr : NR wr Any (· < wr.heap.size) A' c' L sl := ⟨HON.out.len, by have := Rd.own (D := Any) HON.out.own (by omega) (fun _ _ => trivial); rw [HON.out.num] at this; exact this, fun k hk => (HON.out.set k hk).mono fun _ _ hl => hl⟩
              have hkeep := keep_any A' c' L sl (some ⟨lb, 0, none⟩) i fl wr hnr (by rw [← hiL]; exact hrdf) (by omega) hup
              rw [← hiL] at hkeep
              rw [← hK] at hkeep hok hlen hglen hkl HST
              have HKEEP := hid hkeep
              have HOKK := hid hok
              have HFZ := hid hlen
              have HGZ := hid hglen
              obtain ⟨TF, hTF⟩ : ∃ TF, TF = (flashZ K).1 := ⟨_, rfl⟩
              obtain ⟨GF, hGF⟩ : ∃ GF, GF = (flashZ K).2 := ⟨_, rfl⟩
              have hTFl : TF.length ≤ 10000 := by rw [hTF]; exact hlen.len
              have hGFl : GF.length ≤ 10000 := by rw [hGF]; exact Nat.le_trans hglen hkl
              rw [← hTF, ← hGF] at HST
              have HTF := hid hTF
              have HGF := hid hGF
              clear hm hlf hrdf hLL hfl hup hcl hok hstep hK hlen hglen hnr hkeep hTF hGF hL hTN HLF HFL
              clear hiL hTl hGl
              go_wp2_with fail
              with_reducible refine HKEEP.out.mono ?_
              rintro e W7 ⟨A7, c7, sl7, rfl, hb7, ho7, hl7, hs7⟩
              have hon7 : ON wr.heap.size W7 A7 K.length c7 K sl7 := ⟨hl7, rfl, ho7, fun k hk => ((hs7 k hk).keep (Keeps.of_below hb7 fun _ h => h)).mono fun j hj _ e => by have h1 := (ho7.lt j e.symm).1; have hj : j < wr.heap.size := hj; omega⟩
              have HFL := hid (flash_any wr.heap.size A7 c7 K sl7 W7 hon7 hb7.size HOKK.out)
              rw [← HTF.out, ← HGF.out] at HFL
              have HB7 := hid (HBR.out.trans (hb7.mono hszr))
              have hs7' := hb7.size
              clear hb7 ho7 hl7 hs7 hon7
              go_wp2_with fail
              refine HFL.out.mono ?_
              rintro e W8 ⟨A8, c8, sl8, AG, cG, rfl, hb8, hon8, hog8⟩
              have HB8 := hid (HB7.out.trans (hb8.mono HB7.out.size))
              have HON8 := hid hon8
              have HOG8 := hid hog8
              have hs8 := hb8.size
              have HNAME := hid (named_any wr.heap.size A c t A8 c8 TF sl8 W8 (HT4.out.any HB8.out) (by omega) hon8 (by omega))
              clear hb8 hon8 hog8
              go_wp2_with fail
              refine HNAME.out.mono ?_
              rintro e W10 ⟨AB, cB, rfl, hch, hon10, hbad⟩
              have hown10 := own_chg HOG8.out hch (fun k hk e => by
                rcases HOG8.out.2 with ⟨hv, _⟩ | ⟨g, cap, cur, hv, _, hh, _⟩
                · rw [hv] at hk; cases hk
                · rw [hv] at hk
                  have hk : k = g := by injection hk
                  subst hk
                  exact own_ne HON8.out.own hh (by decide) e.symm)
              have hb10 : Below X.heap.size X W10 := HB8.out.trans (hch.below (fun k hk e => by have := (HON8.out.own.lt k e.symm).1; omega) HB8.out.size)
              have HSO := hid (rsorted_any AG cG GF W10 (by have := Rd.own (D := Any) hown10 (by omega) (fun _ _ => trivial); exact this) (by omega))
              have HB10 := hid hb10
              have HON10 := hid hon10
              have HBAD := hid hbad
              have hs10 := hch.size
              clear hch hon10 hbad hown10 hb10
              go_wp2_with fail
              refine HSO.out.mono ?_
              rintro e W12 ⟨AS, cS, rfl, hb12, hgd⟩
              have HB12 := hid (HB10.out.trans (hb12.mono HB10.out.size))
              have HON12 := hid (HON10.out.below hb12)
              have HBAD12 := hid ((HBAD.out.mono (E := fun k => W8.heap.size ≤ k ∧ k < W10.heap.size) fun k hk hl => ⟨hk, hl⟩).keep (Keeps.of_below hb12 fun _ h => h.2))
              have HGD12 := hid hgd
              have hs12 := hb12.size
              have hev12 := (HB12.out.block _ hel).trans HEV.out
              have HEV12 := hid hev12
              have e0 := block_cell hev12 (i := 0) rfl
              have e1 := block_cell hev12 (i := 1) rfl
              have ef0 := block_free hev12 (i := 0)
              have ef1 := block_free hev12 (i := 1)
              have hXW := HB12.out.size
              have hX8 := HB8.out.size
              have hX10 := HB10.out.size
              clear hb12 hgd hev12
              go_wp2_with fail
              refine bodyPost_gen fun W9 hW9 => ?_
              have hev9 : W9.heap[w.heap.size + 1]? = some (.cells #[.slice AS (sortZ GF).length cS, .slice AB (sortZ ((namesZ t).filter (badQ TF))).length cB] 31 (0, 0)) := by rw [hW9]; exact set_block (set_block HEV12.out _) _
              have r0 := block_cell hev9 (i := 0) rfl
              have r1 := block_cell hev9 (i := 1) rfl
              have hon9 : ON wr.heap.size W9 A8 TF.length c8 (nameTo (namesZ t) TF TF.length).1 sl8 := by
                rw [hW9]
                exact (HON12.out.other HEV12.out (by decide) (fun u hu z => by simp at hu; subst hu; simp) _).other (set_block HEV12.out _) (by decide) (fun u hu z => by simp at hu; rcases hu with rfl | rfl <;> simp) _
              have hbw : Below w.heap.size w W9 := by rw [hW9]; exact below_set (below_set (HBW.out.trans (HB12.out.mono HBW.out.size)) (by omega) _) (by omega) _
              have hgd9 : RdI W9 Any AS cS (sortZ GF) := by
                rw [hW9]
                exact (HGD12.out.keep (((Keeps.refl _ W12).set (p := ⟨w.heap.size + 1, 0, none⟩) (by show ¬ W10.heap.size ≤ w.heap.size + 1; omega) _).set (p := ⟨w.heap.size + 1, 1, none⟩) (by show ¬ W10.heap.size ≤ w.heap.size + 1; omega) _)).mono fun _ _ _ => trivial
              have hbd9 : RdI W9 Any AB cB (sortZ ((namesZ t).filter (badQ TF))) := by
                rw [hW9]
                exact (HBAD12.out.keep (((Keeps.refl _ W12).set (p := ⟨w.heap.size + 1, 0, none⟩) (by show ¬ (W8.heap.size ≤ w.heap.size + 1 ∧ _); omega) _).set (p := ⟨w.heap.size + 1, 1, none⟩) (by show ¬ (W8.heap.size ≤ w.heap.size + 1 ∧ _); omega) _)).mono fun _ _ _ => trivial
              have hnml : (nameTo (namesZ t) TF TF.length).1.length = TF.length := (nameTo_le _ _ _).2.2
              have hfin : ∃ (A1 AG AB' : Option Addr) (c1 cG cB' : Nat), Ending.returned (.tuple #[.slice A8 TF.length c8, .agg #[.slice AS (sortZ GF).length cS, .slice AB (sortZ ((namesZ t).filter (badQ TF))).length cB]]) = .returned (.tuple #[.slice A1 (stepR b t a).tree.length c1, .agg #[.slice AG (stepR b t a).good.length cG, .slice AB' (stepR b t a).bad.length cB']]) ∧ Below w.heap.size w W9 ∧ RdN W9 Any A1 c1 (stepR b t a).tree ∧ RdI W9 Any AG cG (stepR b t a).good ∧ RdI W9 Any AB' cB' (stepR b t a).bad := by
                rw [HST.out]
                refine ⟨A8, AS, AB, c8, cS, cB, by rw [hnml], hbw, hon9.rd (by omega), hgd9, hbd9⟩
              clear hW9
              exact bodyPost_ret (v := .tuple #[.slice A8 TF.length c8, .agg #[.slice AS (sortZ GF).length cS, .slice AB (sortZ ((namesZ t).filter (badQ TF))).length cB]]) (by simp [results, Try.results13, go_sem, r0, r1]) rfl hfin
end Go.Proofs.Ythhknonaebnooaa
