/-
  Walk of the program: grown.
  The program's nodes in a block of cells; what divide keeps while it runs.
  Walk of the program: divide.
  Which nodes are good, which are taken out: plain; walk of the program: collapse.
-/
import Derived.Test.YthhknonaebnooaaZ03
import Derived.StillTailTactics
set_option linter.unusedVariables false
set_option linter.unusedSimpArgs false
namespace Go.Proofs.Ythhknonaebnooaa
open Go.RowKit
attribute [local go_sem] cell_alloc_old build_n1 build_n2 build_n3

/-- While grown runs: the automaton in its box, the rows that have been made. -/
structure Gw (w wr : World) (cs : Array Value) (b : Bu) (t : List Nd) (a : Int) (k : Nat) (A : Option Addr) (c : Nat) (R : List PR) : Prop where
  below : Below w.heap.size w wr
  box : HasB wr w.heap.size cs b
  own : wr.ownsRow w.heap.size 67 7 (.slice A k c) k (R.flatMap prc)
  sets : PSets wr w.heap.size R
  rows : RGrown b t a k R
theorem tree_small {n : Nat} {t : List Nd} (h : allN t.length (nodeB n t) = true) {i : Nat} (hi : i < t.length) : ∀ k, k < (nd t i).set.length → 0 ≤ (nd t i).set.getD k 0 ∧ (nd t i).set.getD k 0 < (n : Int) := by
  have h1 := allN_true.1 h i hi
  unfold nodeB at h1
  simp only [Bool.and_eq_true] at h1
  intro k hk
  have h2 := allN_true.1 h1.1.1.2 k hk
  simp only [Bool.and_eq_true, decide_eq_true_eq] at h2
  exact ⟨h2.1.1.1, h2.1.1.2⟩

theorem own_ne_map {w : World} {base n size g : Nat} {e : TypeId} {v : Value} {xs : List Value} {es : Array MapEntry} {cl : Nat} (h : w.ownsRow base e size v n xs) (hg : w.heap[g]? = some (.map es cl)) : some g ≠ v.ownBlock := by
  rcases h.2 with ⟨rfl, _⟩ | ⟨g', cap, cur, rfl, _, hh, _⟩
  · simp [Value.ownBlock]
  · intro he
    have : g' = g := by simpa [Value.ownBlock] using he.symm
    subst this
    rw [hh] at hg; cases hg
theorem SetIs.block {w : World} {mb : Nat} {S : List Int} (h : SetIs w mb S) : ∃ es cl, w.heap[mb]? = some (.map es cl) := by
  obtain ⟨ks, h1, _⟩ := h
  obtain ⟨es, cl, h2, _⟩ := h1.map
  exact ⟨es, cl, h2⟩
theorem Gw.snoc {w wr w1 w5 : World} {cs : Array Value} {b : Bu} {t : List Nd} {a : Int} {k : Nat} {A A5 : Option Addr} {c c5 : Nat} {R : List PR} (hg : Gw w wr cs b t a k A c R) (hd : RdBu w (· < w.heap.size) (.agg cs) b) (hb : Below wr.heap.size wr w1) {x : PR}
    (hs : SetIs w1 x.mb x.nd.set) (hm : wr.heap.size ≤ x.mb) (o : Obj) (hgr : (w1.alloc o).grownBy w5 (Value.slice A k c).ownBlock) (hown : w5.ownsRow w.heap.size 67 7 (.slice A5 (k + 1) c5) (k + 1) (R.flatMap prc ++ prc x))
    (h1 : x.nd = grownP b t a k) (h2 : x.old = decide (k < t.length)) (h3 : x.good = false) (h4 : x.gone = false) : Gw w w5 cs b t a (k + 1) A5 c5 (R ++ [x]) := by
  have hws := hg.below.size
  have hb1 : Below w.heap.size w (w1.alloc o) := hg.below.trans ((hb.trans ((Below.refl _ _).alloc hb.size o)).mono hws)
  have hwa : wr.heap.size ≤ (w1.alloc o).heap.size := by have := hb.size; simp; omega
  have hown1 : (w1.alloc o).ownsRow w.heap.size 67 7 (.slice A k c) k (R.flatMap prc) := (own_below hg.own hb).alloc _
  have hb5 : Below w.heap.size w w5 := hb1.grown hgr (Nat.le_trans hws hwa) (fun k hk => (hown1.lt k hk).1)
  have hbox1 : (w1.alloc o).heap[w.heap.size]? = some (.cells cs 25 (0, 0)) := by
    have hl : w.heap.size < wr.heap.size := lt_of_block hg.box.blk
    exact ((hb.trans ((Below.refl _ _).alloc hb.size o)).block _ hl).trans hg.box.blk
  have hbox5 : w5.heap[w.heap.size]? = some (.cells cs 25 (0, 0)) := (hgr.block _ (lt_of_block hbox1) (fun e => own_ne hown1 hbox1 (by decide) e.symm)).trans hbox1
  have hset : ∀ (mb : Nat) (S : List Int), SetIs (w1.alloc o) mb S → SetIs w5 mb S := fun mb S h => by
    obtain ⟨es, cl, he⟩ := h.block
    exact h.of_block (hgr.block _ h.lt (own_ne_map hown1 he))
  have hset1 : ∀ (mb : Nat) (S : List Int), SetIs w1 mb S → SetIs (w1.alloc o) mb S := fun mb S h => h.of_block (((Below.refl w1.heap.size w1).alloc (Nat.le_refl _) o).block _ h.lt)
  have hsz5 : w.heap.size ≤ w5.heap.size := hb5.size
  refine ⟨hb5, ⟨hbox5, ?_⟩, by rw [List.flatMap_append]; simpa using hown, ?_, hg.rows.snoc h1 h2 h3 h4⟩
  · have hl5 := lt_of_block hbox5
    exact (hd.keep (Keeps.of_below hb5 fun _ h => h)).mono fun k hk _ => by have hk : k < w.heap.size := hk; omega
  · have hk1 : PSets w5 w.heap.size R := ⟨fun i hi => hset _ _ (hset1 _ _ ((hg.sets.set i hi).below hb (hg.sets.lt hi))), hg.sets.lo, hg.sets.ne⟩
    exact hk1.snoc (hset _ _ (hset1 _ _ hs)) (by omega) (fun i hi => by have := hg.sets.lt hi; omega)

set_option maxRecDepth 100000 in
set_option maxHeartbeats 4000000 in
theorem grown_any {D E : Dom} (v : Value) (b : Bu) (A : Option Addr) (c : Nat) (t : List Nd) (a : Int) (w : World) (h : RdBu w D v b) (ht : RdN w E A c t) (hb : buchiB b = true) (hf : fewB b = true) (htr : allN t.length (nodeB b.next.length t) = true) (a0 : 0 ≤ a) (a1 : a < b.letters) (htl : t.length ≤ 20) :
    Calls Try.prog 33 #[v, .slice A t.length c, .int .i64 a] w fun e w' => ∃ A' c' R, e = .returned (.slice A' (2 * t.length) c') ∧ Below w.heap.size w w' ∧ w'.ownsRow w.heap.size 67 7 (.slice A' (2 * t.length) c') (2 * t.length) (R.flatMap prc) ∧ PSets w' w.heap.size R ∧ RGrown b t a (2 * t.length) R := by
  obtain ⟨i0, hti, hz0, hz1, hz2⟩ := info_parts node_info
  obtain ⟨f1, hf1, HF1'⟩ := pred_well false
  obtain ⟨f2, hf2, HF2'⟩ := pred_well true
  have HF1 := hid HF1'
  have HF2 := hid HF2'
  simp only [Bool.false_eq_true, if_false] at hf1
  simp only [if_true] at hf2
  subst hf1 hf2
  have HV := hid h.old
  have HT := hid ht.old
  have htm := ht.len.1
  have HBU := hid hb
  have HFEW := hid hf
  have HTR := hid htr
  obtain ⟨As, cs, An, cn, rfl, ho, hn⟩ := h
  clear ho hn ht hb hf htr HF1' HF2'
  go_enter Try.func33, Try.ntmps33
  go_upto_region 2 with (fail)
  refine wp_gen fun W hW => ?_
  have hM : Gw w W #[.int .i64 b.letters, .slice As b.start.length cs, .slice An b.next.length cn] b t a 0 none 0 [] := by
    have hb1 : Below w.heap.size w W := by rw [hW]; go_grown
    refine ⟨hb1, ?_, ⟨rfl, .inl ⟨rfl, rfl⟩⟩, PSets.nil _ _, ⟨rfl, fun _ h => absurd h (Nat.not_lt_zero _)⟩⟩
    rw [hW]; exact HasB.new HV.out
  have HM := hid hM
  clear hW hM
  go_wp2_with fail
  go_loopw [7, 16] (fun s q wr => ∃ (k : Nat) (A' : Option Addr) (c' : Nat) (R : List PR), k ≤ t.length ∧ q = .int .i64 (k : Int) ∧ s = .slice A' k c' ∧ Gw w wr #[.int .i64 b.letters, .slice As b.start.length cs, .slice An b.next.length cn] b t a k A' c' R) (fun _ q _ => t.length - (intOf q).toNat)
  case atStart => exact ⟨0, none, 0, [], Nat.zero_le _, rfl, rfl, HM.out⟩
  case round =>
    obtain ⟨k, A', c', R, hk, rfl, rfl, hg⟩ := hrel
    have HG := hid hg
    obtain ⟨x0, x1, x2, xl⟩ := hg.box.cells
    have hws := hg.below.size
    have HTW := hid (HT.out.keep (Keeps.of_below hg.below fun _ h => h))
    clear hg
    by_cases hlt : k < t.length
    · obtain ⟨g, o, A2, c2, x, rfl, _, hgl, HX, hr, h0, h1, h2⟩ := HTW.out.get hlt
      have hki : (k : Int) < t.length := by omega
      have hxs := tree_small HTR.out hlt
      have hnd : nd t k = x := HX.out
      rw [hnd] at hxs
      have HXS := hid hxs
      have HRX := hid hr
      clear hr hxs hnd
      obtain ⟨W2, hW2⟩ : ∃ W2, W2 = wr := ⟨_, rfl⟩
      rw [← hW2] at HG HTW HRX hws hgl h0 h1 h2 x0 x1 x2 xl ⊢
      clear hW2
      go_upto_region 5 with (fail)
      refine wp_gen fun W3 hW3 => ?_
      have hb3 : Below W2.heap.size W2 W3 := by rw [hW3]; go_grown
      have e0 : W3.cell? ⟨W2.heap.size, 0, none⟩ = some (.int .i64 x.name) := by rw [hW3]; exact cell_new W2 _ _ _ 0 _ rfl rfl
      have e1 : W3.cell? ⟨W2.heap.size, 1, none⟩ = some (.int .i64 x.parent) := by rw [hW3]; exact cell_new W2 _ _ _ 1 _ rfl rfl
      have e2 : W3.cell? ⟨W2.heap.size, 2, none⟩ = some (.slice A2 x.set.length c2) := by rw [hW3]; exact cell_new W2 _ _ _ 2 _ rfl rfl
      have hs3 : W2.heap.size < W3.heap.size := by rw [hW3]; simp only [World.size_alloc]; omega
      have HB3 := hid hb3
      have x0 := (hb3.cell (p := ⟨w.heap.size, 0, none⟩) xl).trans x0
      have x1 := (hb3.cell (p := ⟨w.heap.size, 1, none⟩) xl).trans x1
      have x2 := (hb3.cell (p := ⟨w.heap.size, 2, none⟩) xl).trans x2
      have hv3 : RdBu W3 (· < w.heap.size) (.agg #[.int .i64 b.letters, .slice As b.start.length cs, .slice An b.next.length cn]) b := HV.out.keep (Keeps.of_below (HG.out.below.trans (hb3.mono hws)) fun _ h => h)
      have HV3 := hid hv3
      have HR3 := hid (HRX.out.keep (Keeps.of_below hb3 fun k hk => by have hk : k < w.heap.size := hk; omega))
      clear hW3 hb3 hv3
      go_wp2_with (first | (go_at_call 58; refine (preached_any _ b A2 c2 x.set a false _ HF1.out W3 HV3.out HR3.out HBU.out HFEW.out HXS.out a0 a1).mono ?_; rintro e w1 ⟨rfl, hb4, hs4⟩; have HB4 := hid hb4; have HS4 := hid hs4; have e0 := (hb4.cell (p := ⟨W2.heap.size, 0, none⟩) (by show W2.heap.size < W3.heap.size; omega)).trans e0; have e1 := (hb4.cell (p := ⟨W2.heap.size, 1, none⟩) (by show W2.heap.size < W3.heap.size; omega)).trans e1; have e2 := (hb4.cell (p := ⟨W2.heap.size, 2, none⟩) (by show W2.heap.size < W3.heap.size; omega)).trans e2; have hw4 := hb4.size; have HB5 := hid (HB3.out.trans (hb4.mono (by omega))); clear hb4 hs4) | (at_builtin; go_must (refine wpList_append_rd _ rfl (.tmp 25) (.tmp 29) 62 rfl w.heap.size 67 i0 _ 7 56 Try.underlying62 hti hz0 hz1 hz2 rfl (by omega) (.slice A' k c') k _ rfl ((own_below HG.out.own HB5.out).alloc _) _ (some ⟨w1.heap.size, 0, none⟩) 1 1 _ rfl (Rd.fresh (D := fun _ => True) rfl trivial rfl (by omega)) (by simp [Value.oneCell']) (by omega) (maxLen_le (by omega)) (by simp; omega) ?_); intro A5 c5 w5 hown5 hg5 hat5))
      have hG5 : Gw w w5 #[.int .i64 b.letters, .slice As b.start.length cs, .slice An b.next.length cn] b t a (k + 1) A5 c5 (R ++ [⟨{ nd t k with set := reachZ b (nd t k).set a false }, W3.heap.size + 1, (A2, x.set.length, c2), true, false, false⟩]) := by
        have hnd : nd t k = x := HX.out
        rw [hnd]
        exact HG.out.snoc HV.out HB5.out HS4.out (by show W2.heap.size ≤ W3.heap.size + 1; omega) _ hg5 hown5 (by unfold grownP; rw [if_pos hlt, hnd]) (by simp [hlt]) rfl rfl
      have HG5 := hid hG5
      clear hown5 hg5 hat5 hG5
      go_roundw
      case rel => exact ⟨k + 1, A5, c5, _, by omega, by go_num, rfl, HG5.out⟩
      case measure => simp [intOf]; omega
    · obtain rfl : k = t.length := by omega
      clear HTW x0 x1 x2 xl hws
      obtain ⟨W6, hW6⟩ : ∃ W6, W6 = wr := ⟨_, rfl⟩
      rw [← hW6] at HG ⊢
      clear hW6
      go_wp2_with fail
      go_loopw [7, 34] (fun s q wr => ∃ (k : Nat) (A' : Option Addr) (c' : Nat) (R : List PR), k ≤ t.length ∧ q = .int .i64 (k : Int) ∧ s = .slice A' (t.length + k) c' ∧ Gw w wr #[.int .i64 b.letters, .slice As b.start.length cs, .slice An b.next.length cn] b t a (t.length + k) A' c' R) (fun _ q _ => t.length - (intOf q).toNat)
      case atStart => exact ⟨0, A', c', R, Nat.zero_le _, rfl, rfl, HG.out⟩
      case round =>
        obtain ⟨k, A', c', R, hk, rfl, rfl, hg⟩ := hrel
        have HG := hid hg
        obtain ⟨x0, x1, x2, xl⟩ := hg.box.cells
        have hws := hg.below.size
        have HTW := hid (HT.out.keep (Keeps.of_below hg.below fun _ h => h))
        clear hg
        by_cases hlt : k < t.length
        · obtain ⟨g, o, A2, c2, x, rfl, _, hgl, HX, hr, h0, h1, h2⟩ := HTW.out.get hlt
          have hki : (k : Int) < t.length := by omega
          have hxs := tree_small HTR.out hlt
          have hnd : nd t k = x := HX.out
          rw [hnd] at hxs
          have HXS := hid hxs
          have HRX := hid hr
          clear hr hxs hnd
          obtain ⟨W2, hW2⟩ : ∃ W2, W2 = wr := ⟨_, rfl⟩
          rw [← hW2] at HG HTW HRX hws hgl h0 h1 h2 x0 x1 x2 xl ⊢
          clear hW2
          go_upto_region 11 with (fail)
          refine wp_gen fun W3 hW3 => ?_
          have hb3 : Below W2.heap.size W2 W3 := by rw [hW3]; go_grown
          have e2 : W3.cell? ⟨W2.heap.size, 2, none⟩ = some (.slice A2 x.set.length c2) := by rw [hW3]; exact cell_new W2 _ _ _ 2 _ rfl rfl
          have hs3 : W2.heap.size < W3.heap.size := by rw [hW3]; simp only [World.size_alloc]; omega
          have HB3 := hid hb3
          have x0 := (hb3.cell (p := ⟨w.heap.size, 0, none⟩) xl).trans x0
          have x1 := (hb3.cell (p := ⟨w.heap.size, 1, none⟩) xl).trans x1
          have x2 := (hb3.cell (p := ⟨w.heap.size, 2, none⟩) xl).trans x2
          have hv3 : RdBu W3 (· < w.heap.size) (.agg #[.int .i64 b.letters, .slice As b.start.length cs, .slice An b.next.length cn]) b := HV.out.keep (Keeps.of_below (HG.out.below.trans (hb3.mono hws)) fun _ h => h)
          have HV3 := hid hv3
          have HR3 := hid (HRX.out.keep (Keeps.of_below hb3 fun k hk => by have hk : k < w.heap.size := hk; omega))
          clear hW3 hb3 hv3
          go_wp2_with (first | (go_at_call 58; refine (preached_any _ b A2 c2 x.set a true _ HF2.out W3 HV3.out HR3.out HBU.out HFEW.out HXS.out a0 a1).mono ?_; rintro e w1 ⟨rfl, hb4, hs4⟩; have HS4 := hid hs4; have hw4 := hb4.size; have HB5 := hid (HB3.out.trans (hb4.mono (by omega))); clear hb4 hs4) | (at_builtin; go_must (refine wpList_append_rd _ rfl (.tmp 44) (.tmp 49) 62 rfl w.heap.size 67 i0 _ 7 56 Try.underlying62 hti hz0 hz1 hz2 rfl (by omega) (.slice A' (t.length + k) c') (t.length + k) _ rfl ((own_below HG.out.own HB5.out).alloc _) _ (some ⟨w1.heap.size, 0, none⟩) 1 1 _ rfl (Rd.fresh (D := fun _ => True) rfl trivial rfl (by omega)) (by simp [Value.oneCell']) (by omega) (maxLen_le (by omega)) (by simp; omega) ?_); intro A5 c5 w5 hown5 hg5 hat5))
          have hG5 : Gw w w5 #[.int .i64 b.letters, .slice As b.start.length cs, .slice An b.next.length cn] b t a (t.length + k + 1) A5 c5 (R ++ [⟨⟨0, (k : Int), reachZ b (nd t k).set a true⟩, W3.heap.size + 1, (none, 0, 0), false, false, false⟩]) := by
            have hnd : nd t k = x := HX.out
            rw [hnd]
            have e1 : t.length + k - t.length = k := by omega
            exact HG.out.snoc HV.out HB5.out HS4.out (by show W2.heap.size ≤ W3.heap.size + 1; omega) _ hg5 hown5 (by unfold grownP; rw [if_neg (by omega), e1, hnd]) (by simp) rfl rfl
          have HG5 := hid hG5
          clear hown5 hg5 hat5 hG5
          go_roundw
          case rel => exact ⟨k + 1, A5, c5, _, by omega, by go_num, rfl, HG5.out⟩
          case measure => simp [intOf]; omega
        · obtain rfl : k = t.length := by omega
          have e2 : t.length + t.length = 2 * t.length := by omega
          have HE2 := hid e2
          clear e2
          go_wp2_with fail
          go_ret
          have hg := HG.out
          rw [HE2.out] at hg
          exact ⟨A', c', R, by rw [HE2.out]; rfl, hg.below, hg.own, hg.sets, hg.rows⟩
end Go.Proofs.Ythhknonaebnooaa
set_option linter.unusedVariables false
set_option linter.unusedSimpArgs false
namespace Go.Proofs.Ythhknonaebnooaa
open Go.RowKit

/-- Block g holds the rows R. -/
def PB (w : World) (g : Nat) (R : List PR) : Prop := ∃ cur, w.heap[g]? = some (.cells cur 67 (0, 0)) ∧ ∀ i j, i < R.length → j < 7 → cur[i * 7 + j]? = (prc (R.getD i default))[j]?
theorem prc_len (x : PR) : (prc x).length = 7 := rfl
section
variable {w w' : World} {g : Nat} {R : List PR}
theorem PB.lt (h : PB w g R) : g < w.heap.size := let ⟨_, h1, _⟩ := h; lt_of_block h1
theorem PB.of_block (h : PB w g R) (hb : w'.heap[g]? = w.heap[g]?) : PB w' g R := let ⟨cur, h1, h2⟩ := h; ⟨cur, hb.trans h1, h2⟩
theorem PB.ne_map (h : PB w g R) {mb : Nat} {S : List Int} (hs : SetIs w mb S) : mb ≠ g := by
  obtain ⟨cur, h1, _⟩ := h
  obtain ⟨es, cl, h2⟩ := hs.block
  intro e
  rw [e, h1] at h2; cases h2
theorem PB.cells (h : PB w g R) {i : Nat} (hi : i < R.length) :
    w.cell? ⟨g, i * 7, none⟩ = some (.int .i64 (R.getD i default).nd.name) ∧ w.cell? ⟨g, i * 7 + 1, none⟩ = some (.int .i64 (R.getD i default).nd.parent) ∧ w.cell? ⟨g, i * 7 + 2, none⟩ = some (.slice (R.getD i default).sv.1 (R.getD i default).sv.2.1 (R.getD i default).sv.2.2) ∧
    w.cell? ⟨g, i * 7 + 3, none⟩ = some (.map (some (R.getD i default).mb)) ∧ w.cell? ⟨g, i * 7 + 4, none⟩ = some (.bool (R.getD i default).old) ∧ w.cell? ⟨g, i * 7 + 5, none⟩ = some (.bool (R.getD i default).good) ∧ w.cell? ⟨g, i * 7 + 6, none⟩ = some (.bool (R.getD i default).gone) := by
  obtain ⟨cur, h1, h2⟩ := h
  refine ⟨block_cell h1 ?_, block_cell h1 ?_, block_cell h1 ?_, block_cell h1 ?_, block_cell h1 ?_, block_cell h1 ?_, block_cell h1 ?_⟩
  · exact h2 i 0 hi (by omega)
  · exact h2 i 1 hi (by omega)
  · exact h2 i 2 hi (by omega)
  · exact h2 i 3 hi (by omega)
  · exact h2 i 4 hi (by omega)
  · exact h2 i 5 hi (by omega)
  · exact h2 i 6 hi (by omega)
theorem PB.free (h : PB w g R) (k : Nat) : w.frozen? ⟨g, k, none⟩ = false := let ⟨_, h1, _⟩ := h; block_free h1
theorem PB.set (h : PB w g R) {i j : Nat} (hi : i < R.length) (hj : j < 7) (u : Value) (x : PR) (hx : prc x = (prc (R.getD i default)).set j u) : PB (w.setCell ⟨g, i * 7 + j, none⟩ u) g (R.set i x) := by
  obtain ⟨cur, h1, h2⟩ := h
  refine ⟨cur.setIfInBounds (i * 7 + j) u, set_block h1 u, fun i' j' hi' hj' => ?_⟩
  rw [List.length_set] at hi'
  have hin : i * 7 + j < cur.size := by
    have := h2 i j hi hj
    rw [List.getElem?_eq_getElem (by rw [prc_len]; exact hj)] at this
    exact (Array.getElem?_eq_some_iff.1 this).1
  by_cases e : i = i'
  · subst e
    have e1 : (R.set i x).getD i default = x := by simp [List.getD, hi]
    rw [e1, hx]
    by_cases e2 : j = j'
    · subst e2
      rw [Array.getElem?_setIfInBounds, if_pos rfl, if_pos hin, List.getElem?_set, if_pos rfl, if_pos (by rw [prc_len]; exact hj)]
    · rw [Array.getElem?_setIfInBounds, if_neg (by omega), h2 i j' hi hj', List.getElem?_set, if_neg e2]
  · have e1 : (R.set i x).getD i' default = R.getD i' default := by simp [List.getD, e]
    rw [e1, Array.getElem?_setIfInBounds, if_neg (by omega), h2 i' j' hi' hj']
theorem PB.own {base n c : Nat} {A : Option Addr} (h : w.ownsRow base 67 7 (.slice A n c) n (R.flatMap prc)) (hl : R.length = n) (hn : 0 < n) : ∃ g, A = some ⟨g, 0, none⟩ ∧ base ≤ g ∧ PB w g R := by
  rcases h.2 with ⟨_, h0⟩ | ⟨g, cap, cur, hv, hb, hh, h1, h2, hsz, htk⟩
  · omega
  · injection hv with hv _ _
    refine ⟨g, hv, hb, cur, hh, fun i j hi hj => ?_⟩
    rw [← flat_at default prc 7 prc_len R i j hi hj, ← htk, List.getElem?_take, if_pos (by rw [hl] at hi; omega)]
    simp
end
/-- The list of the nodes. -/
def ndsP (R : List PR) : List Nd := R.map (·.nd)
theorem ndsP_get (R : List PR) {i : Nat} (hi : i < R.length) : nd (ndsP R) i = (R.getD i default).nd := by
  unfold nd ndsP
  simp [List.getD, hi]
theorem ndsP_len (R : List PR) : (ndsP R).length = R.length := by simp [ndsP]
theorem ndsP_set (R : List PR) (i : Nat) (x : PR) : ndsP (R.set i x) = (ndsP R).set i x.nd := by unfold ndsP; rw [List.map_set]
/-- Is s in the set of an earlier node with the parent p? -/
def Took (R : List PR) (i : Nat) (p : Nat) (s : Int) : Prop := ∃ j, j < i ∧ (R.getD j default).nd.parent = (p : Int) ∧ s ∈ (R.getD j default).nd.set
/-- Parents stand before their children; the first node alone has none. -/
def UpP (R : List PR) : Prop := ∀ i, i < R.length → (i = 0 → (R.getD i default).nd.parent = -1) ∧ (0 < i → 0 ≤ (R.getD i default).nd.parent ∧ (R.getD i default).nd.parent < (i : Int))
/-- While divide runs: i nodes have what they keep, m maps of what is taken are made; X: what has been taken just now of node p. -/
structure DvI (B : Nat) (w wr : World) (g tb : Nat) (R R' : List PR) (tk : List Nat) (i m p : Nat) (X : List Int) : Prop where
  len : R'.length = R.length
  pb : PB wr g R'
  sets : PSets wr B R'
  nds : ndsP R' = trimTo (ndsP R) i
  same : ∀ j, j < R.length → (R'.getD j default).old = (R.getD j default).old ∧ (R'.getD j default).good = (R.getD j default).good ∧ (R'.getD j default).nd.name = (R.getD j default).nd.name ∧ (R'.getD j default).nd.parent = (R.getD j default).nd.parent ∧ (R'.getD j default).sv = (R.getD j default).sv
  gone : ∀ j, j < i → j < R.length → (R'.getD j default).gone = (R'.getD j default).nd.set.isEmpty
  tbk : ∃ cur, wr.heap[tb]? = some (.cells cur 65 (0, 0)) ∧ cur.size = R.length ∧ ∀ q, q < m → cur[q]? = some (.map (some (tk.getD q 0)))
  tkl : tk.length = m
  tks : ∀ q, q < m → ∃ ks, MSet wr (tk.getD q 0) ks ∧ ∀ z, z ∈ ks ↔ Took R' i q z ∨ (q = p ∧ z ∈ X)
  tkn : ∀ q q', q < m → q' < m → q ≠ q' → tk.getD q 0 ≠ tk.getD q' 0
  tkm : ∀ q j, q < m → j < R.length → tk.getD q 0 ≠ (R'.getD j default).mb
  chg : Chg (fun k => k = g) w wr
  glt : g < w.heap.size
  blo : B ≤ w.heap.size
  tlo : ∀ q, q < m → w.heap.size ≤ tk.getD q 0
  tbl : w.heap.size ≤ tb
section
variable {B : Nat} {w wr wr' : World} {g tb : Nat} {R R' : List PR} {tk : List Nat} {i m p : Nat} {X : List Int}
/-- The blocks that it speaks of. -/
def DvD (g tb : Nat) (R' : List PR) (tk : List Nat) (m : Nat) (b : Nat) : Prop := b = g ∨ b = tb ∨ (∃ j, j < R'.length ∧ b = (R'.getD j default).mb) ∨ ∃ q, q < m ∧ b = tk.getD q 0
theorem DvI.dlt (h : DvI B w wr g tb R R' tk i m p X) {b : Nat} (hb : DvD g tb R' tk m b) : b < wr.heap.size := by
  rcases hb with rfl | rfl | ⟨j, hj, rfl⟩ | ⟨q, hq, rfl⟩
  · exact h.pb.lt
  · obtain ⟨cur, h1, _⟩ := h.tbk; exact lt_of_block h1
  · exact h.sets.lt hj
  · obtain ⟨ks, h1, _⟩ := h.tks q hq; exact h1.lt
theorem DvI.next (h : DvI B w wr g tb R R' tk i m p X) (hc : Chg (fun k => k = g) w wr') (hb : ∀ b, DvD g tb R' tk m b → wr'.heap[b]? = wr.heap[b]?) : DvI B w wr' g tb R R' tk i m p X :=
  ⟨h.len, h.pb.of_block (hb _ (.inl rfl)), h.sets.keep (fun j hj => hb _ (.inr (.inr (.inl ⟨j, hj, rfl⟩)))), h.nds, h.same, h.gone,
    let ⟨cur, h1, h2⟩ := h.tbk; ⟨cur, (hb _ (.inr (.inl rfl))).trans h1, h2⟩, h.tkl, fun q hq => let ⟨ks, h1, h2⟩ := h.tks q hq; ⟨ks, h1.of_block (hb _ (.inr (.inr (.inr ⟨q, hq, rfl⟩)))), h2⟩, h.tkn, h.tkm, hc, h.glt, h.blo, h.tlo, h.tbl⟩
theorem DvI.new (h : DvI B w wr g tb R R' tk i m p X) (hb : Below wr.heap.size wr wr') : DvI B w wr' g tb R R' tk i m p X := h.next (h.chg.trans (Chg.of_new hb)) fun b hd => hb.block b (h.dlt hd)
theorem DvI.grown (h : DvI B w wr g tb R R' tk i m p X) {k : Nat} (hg : wr.grownBy wr' (some k)) (hk : ∀ b, DvD g tb R' tk m b → b ≠ k) (hkw : w.heap.size ≤ k) : DvI B w wr' g tb R R' tk i m p X :=
  h.next (h.chg.grown hg (fun j e hj => by have := Option.some.inj e; omega)) fun b hd => hg.block b (h.dlt hd) (fun e => hk b hd (Option.some.inj e))
theorem DvI.tb_ne (h : DvI B w wr g tb R R' tk i m p X) {k : Nat} {ks : List Int} (hs : MSet wr k ks) : k ≠ tb ∧ k ≠ g := by
  obtain ⟨cur, h1, _⟩ := h.tbk
  obtain ⟨cur2, h2, _⟩ := h.pb
  obtain ⟨es, cl, h3, _⟩ := hs.map
  exact ⟨fun e => (by rw [e, h1] at h3; cases h3), fun e => (by rw [e, h2] at h3; cases h3)⟩
/-- The map of what is taken of node i is made. -/
theorem DvI.take (h : DvI B w wr g tb R R' tk i i p []) (hi : i < R.length) (hu : UpP R) (hw : wr' = (wr.setCell ⟨tb, i, none⟩ (.map (some wr.heap.size))).alloc (.map #[] 0)) (p' : Nat) : DvI B w wr' g tb R R' (tk ++ [wr.heap.size]) i (i + 1) p' [] := by
  obtain ⟨cur, hc1, hc2, hc3⟩ := h.tbk
  have htl : tb < wr.heap.size := lt_of_block hc1
  have hgl := h.pb.lt
  have htg : tb ≠ g := by
    obtain ⟨cur2, h2, _⟩ := h.pb
    intro e
    rw [e, h2] at hc1
    injection hc1 with hc1
    injection hc1 with _ hc1
    exact absurd hc1 (by decide)
  have hb : ∀ b, b < wr.heap.size → b ≠ tb → wr'.heap[b]? = wr.heap[b]? := fun b hb hne => by
    rw [hw]
    exact (Below.heap_alloc _ _ _ (by simpa using hb)).trans (Below.heap_setCell _ _ _ _ hne)
  have hnew : MSet wr' wr.heap.size [] := by
    have := MSet.new (wr.setCell ⟨tb, i, none⟩ (.map (some wr.heap.size)))
    rw [World.size_setCell] at this
    rw [hw]; exact this
  have hget : ∀ q, q < i → (tk ++ [wr.heap.size]).getD q 0 = tk.getD q 0 := fun q hq => by
    rw [getD_snoc tk _ _ q (by rw [h.tkl]; omega), if_neg (by rw [h.tkl]; omega)]
  have hgeti : (tk ++ [wr.heap.size]).getD i 0 = wr.heap.size := by
    rw [getD_snoc tk _ _ i (by rw [h.tkl]; omega), if_pos h.tkl.symm]
  have htne : ∀ q, q < i → tk.getD q 0 ≠ tb ∧ tk.getD q 0 < wr.heap.size := fun q hq => by
    obtain ⟨ks, h1, _⟩ := h.tks q hq
    exact ⟨(h.tb_ne h1).1, h1.lt⟩
  have hmne : ∀ j, j < R.length → (R'.getD j default).mb ≠ tb ∧ (R'.getD j default).mb < wr.heap.size := fun j hj => by
    have hj' : j < R'.length := by rw [h.len]; exact hj
    obtain ⟨ks, h1, _⟩ := h.sets.set j hj'
    exact ⟨(h.tb_ne h1).1, h1.lt⟩
  refine ⟨h.len, h.pb.of_block (hb g hgl (fun e => htg e.symm)), h.sets.keep (fun j hj => hb _ (hmne j (by rw [← h.len]; exact hj)).2 (hmne j (by rw [← h.len]; exact hj)).1), h.nds, h.same, h.gone, ?_, by simp [h.tkl], fun q hq => ?_, fun q q' hq hq' hne => ?_, fun q j hq hj => ?_, ?_, h.glt, h.blo, fun q hq => ?_, h.tbl⟩
  · refine ⟨cur.setIfInBounds i (.map (some wr.heap.size)), ?_, by simpa using hc2, fun q hq => ?_⟩
    · rw [hw]
      exact (Below.heap_alloc _ _ _ (by simpa using htl)).trans (set_block hc1 _)
    · rw [Array.getElem?_setIfInBounds]
      by_cases e : i = q
      · subst e
        rw [if_pos rfl, if_pos (by omega), hgeti]
      · rw [if_neg e, hget q (by omega)]
        exact hc3 q (by omega)
  · by_cases e : q = i
    · subst e
      rw [hgeti]
      refine ⟨[], hnew, fun z => ⟨fun h => (by cases h), fun h1 => ?_⟩⟩
      rcases h1 with ⟨j, hj, hp, _⟩ | ⟨_, hz⟩
      · have hjl : j < R.length := by omega
        have hs := (h.same j hjl).2.2.2.1
        rw [hs] at hp
        have := hu j hjl
        rcases Nat.eq_zero_or_pos j with h0 | h0
        · have := this.1 h0; omega
        · have := this.2 h0; omega
      · cases hz
    · rw [hget q (by omega)]
      obtain ⟨ks, h1, h2⟩ := h.tks q (by omega)
      refine ⟨ks, h1.of_block (hb _ h1.lt (h.tb_ne h1).1), fun z => (h2 z).trans ?_⟩
      simp
  · by_cases e : q = i
    · subst e
      rw [hgeti, hget q' (by omega)]
      have := (htne q' (by omega)).2
      omega
    · by_cases e' : q' = i
      · subst e'
        rw [hgeti, hget q (by omega)]
        have := (htne q (by omega)).2
        omega
      · rw [hget q (by omega), hget q' (by omega)]
        exact h.tkn q q' (by omega) (by omega) hne
  · by_cases e : q = i
    · subst e
      rw [hgeti]
      have := (hmne j hj).2
      omega
    · rw [hget q (by omega)]
      exact h.tkm q j (by omega) hj
  · rw [hw]
    exact (h.chg.set _ _ (fun hlt => by
      have hlt : tb < w.heap.size := hlt
      have := h.tbl
      omega)).alloc _
  · by_cases e : q = i
    · subst e; rw [hgeti]; exact h.chg.size
    · rw [hget q (by omega)]; exact h.tlo q (by omega)
/-- A state is taken of node p. -/
theorem DvI.put (h : DvI B w wr g tb R R' tk i m p X) {X' : List Int} {z : Int} {ks : List Int} (hp : p < m) (hk : MSet wr (tk.getD p 0) ks) (hg : wr.grownBy wr' (some (tk.getD p 0))) (hm : MSet wr' (tk.getD p 0) (addK ks z)) (hkw : w.heap.size ≤ tk.getD p 0)
    (hmem : ∀ y, y ∈ ks ↔ Took R' i p y ∨ y ∈ X) (hX : ∀ y, y ∈ X' ↔ y ∈ X ∨ y = z) : DvI B w wr' g tb R R' tk i m p X' := by
  have hne := h.tb_ne hk
  have hb : ∀ b, b < wr.heap.size → b ≠ tk.getD p 0 → wr'.heap[b]? = wr.heap[b]? := fun b hb hne => hg.block b hb (fun e => hne (Option.some.inj e))
  refine ⟨h.len, h.pb.of_block (hb g h.pb.lt (fun e => hne.2 e.symm)), h.sets.keep (fun j hj => hb _ (h.sets.lt hj) (fun e => h.tkm p j hp (by rw [← h.len]; exact hj) e.symm)), h.nds, h.same, h.gone, ?_, h.tkl, fun q hq => ?_, h.tkn, h.tkm, h.chg.grown hg (fun j e hj => by have := Option.some.inj e; omega), h.glt, h.blo, h.tlo, h.tbl⟩
  · obtain ⟨cur, h1, h2⟩ := h.tbk
    exact ⟨cur, (hb tb (lt_of_block h1) (fun e => hne.1 e.symm)).trans h1, h2⟩
  · by_cases e : q = p
    · subst e
      refine ⟨_, hm, fun y => ?_⟩
      rw [mem_addK, hmem y, hX y]
      simp [or_assoc]
    · obtain ⟨ks', h1, h2⟩ := h.tks q hq
      refine ⟨ks', h1.of_block (hb _ h1.lt (h.tkn q p hq hp e)), fun y => (h2 y).trans ?_⟩
      simp [e]
/-- Node i has what it keeps. -/
theorem DvI.done (h : DvI B w wr g tb R R' tk i (i + 1) p X) (hi : i < R.length) (x : PR) (hpb : PB wr' g (R'.set i x)) (hb : ∀ b, b < wr.heap.size → b ≠ g → wr'.heap[b]? = wr.heap[b]?) (hc : Chg (fun k => k = g) w wr')
    (hx : x.nd = { (R'.getD i default).nd with set := trimmedZ (ndsP R') i }) (hs1 : x.old = (R'.getD i default).old) (hs2 : x.good = (R'.getD i default).good) (hs3 : x.sv = (R'.getD i default).sv) (hs4 : x.gone = x.nd.set.isEmpty) (hset : SetIs wr x.mb x.nd.set) (hlo : B ≤ x.mb)
    (hne : ∀ j, j < R.length → j ≠ i → x.mb ≠ (R'.getD j default).mb) (htk : ∀ q, q < i + 1 → tk.getD q 0 ≠ x.mb) (hX : ∀ (q : Nat) z, (q = p ∧ z ∈ X) ↔ ((R'.getD i default).nd.parent = (q : Int) ∧ z ∈ x.nd.set)) (p' : Nat) :
    DvI B w wr' g tb R (R'.set i x) tk (i + 1) (i + 1) p' [] := by
  have hil : i < R'.length := by rw [h.len]; exact hi
  have hat : ∀ j, (R'.set i x).getD j default = if i = j then x else R'.getD j default := fun j => by
    by_cases e : i = j
    · subst e; simp [List.getD, hil]
    · simp [List.getD, e]
  have hg : ∀ mb S, SetIs wr mb S → SetIs wr' mb S := fun mb S hs => hs.of_block (hb _ hs.lt (h.pb.ne_map hs))
  refine ⟨by simp [h.len], hpb, ⟨fun j hj => ?_, fun j hj => ?_, fun j j' hj hj' hjj => ?_⟩, ?_, fun j hj => ?_, fun j hj hjl => ?_, ?_, h.tkl, fun q hq => ?_, h.tkn, fun q j hq hj => ?_, hc, h.glt, h.blo, h.tlo, h.tbl⟩
  · rw [List.length_set] at hj
    rw [hat j]; split
    · exact hg _ _ hset
    · exact hg _ _ (h.sets.set j hj)
  · rw [List.length_set] at hj
    rw [hat j]; split
    · exact hlo
    · exact h.sets.lo j hj
  · rw [List.length_set] at hj hj'
    rw [hat j, hat j']
    rw [h.len] at hj hj'
    split
    · rw [if_neg (by omega)]; exact hne j' hj' (by omega)
    · split
      · exact fun e => hne j hj (by omega) e.symm
      · exact h.sets.ne j j' (by rw [h.len]; exact hj) (by rw [h.len]; exact hj') hjj
  · rw [ndsP_set, hx]
    show _ = setAt (trimTo (ndsP R) i) i (trimmedZ (trimTo (ndsP R) i) i)
    unfold setAt
    rw [← h.nds, ndsP_get R' hil]
  · rw [hat j]; split
    · rename_i e
      subst e
      have := h.same i hj
      rw [hs1, hs2, hs3, hx]
      exact this
    · exact h.same j hj
  · rw [hat j]; split
    · exact hs4
    · exact h.gone j (by omega) hjl
  · obtain ⟨cur, h1, h2⟩ := h.tbk
    have htg : tb ≠ g := by
      obtain ⟨cur2, h3, _⟩ := h.pb
      intro e
      rw [e, h3] at h1
      injection h1 with h1
      injection h1 with _ h1
      exact absurd h1 (by decide)
    exact ⟨cur, (hb tb (lt_of_block h1) htg).trans h1, h2⟩
  · obtain ⟨ks, h1, h2⟩ := h.tks q hq
    refine ⟨ks, h1.of_block (hb _ h1.lt (h.tb_ne h1).2), fun z => (h2 z).trans ?_⟩
    rw [hX q z]
    have e1 : (Took (R'.set i x) (i + 1) q z ∨ q = p' ∧ z ∈ ([] : List Int)) ↔ Took (R'.set i x) (i + 1) q z := by simp
    rw [e1]
    refine ⟨fun h3 => ?_, fun h3 => ?_⟩
    · rcases h3 with ⟨j, hj, hp1, hp2⟩ | ⟨hp1, hp2⟩
      · exact ⟨j, by omega, by rw [hat j, if_neg (by omega)]; exact hp1, by rw [hat j, if_neg (by omega)]; exact hp2⟩
      · exact ⟨i, by omega, by rw [hat i, if_pos rfl, hx]; exact hp1, by rw [hat i, if_pos rfl]; exact hp2⟩
    · obtain ⟨j, hj, hp1, hp2⟩ := h3
      rw [hat j] at hp1 hp2
      by_cases e : i = j
      · rw [if_pos e] at hp1 hp2
        rw [hx] at hp1
        exact .inr ⟨hp1, hp2⟩
      · rw [if_neg e] at hp1 hp2
        exact .inl ⟨j, by omega, hp1, hp2⟩
  · rw [hat j]; split
    · exact htk q hq
    · exact h.tkm q j hq hj
end
/-- What node i keeps. -/
theorem mem_trimmed {R : List PR} {i p : Nat} (hi : i < R.length) (h0 : 0 < i) (hu : ∀ j, j < R.length → (j = 0 → (R.getD j default).nd.parent = -1)) (hp : (R.getD i default).nd.parent = (p : Int)) (hpl : p < R.length) (z : Int) :
    z ∈ trimmedZ (ndsP R) i ↔ z ∈ (R.getD i default).nd.set ∧ z ∈ (R.getD p default).nd.set ∧ ¬ Took R i p z := by
  unfold trimmedZ
  rw [List.mem_filter, ndsP_get R hi, hp, Int.toNat_natCast, ndsP_get R hpl]
  have e0 : decide (i = 0) = false := decide_eq_false (by omega)
  rw [e0, Bool.false_or, Bool.and_eq_true, inB_iff, List.all_eq_true]
  refine and_congr Iff.rfl (and_congr Iff.rfl ?_)
  refine ⟨fun h => ?_, fun h n hn => ?_⟩
  · rintro ⟨j, hj, hjp, hz⟩
    have := h j (List.mem_range.2 hj)
    rw [ndsP_get R (by omega), hjp] at this
    have hj0 : j ≠ 0 := fun e => by
      have := hu j (by omega) e
      omega
    have hz' : inB (R.getD j default).nd.set z = true := inB_iff.2 hz
    rw [hz'] at this
    simp [hj0] at this
  · have hn := List.mem_range.1 hn
    rw [ndsP_get R (by omega)]
    by_cases e1 : n = 0
    · simp [e1]
    · by_cases e2 : (R.getD n default).nd.parent = (p : Int)
      · cases hz : inB (R.getD n default).nd.set z
        · simp
        · exact absurd ⟨n, hn, e2, inB_iff.1 hz⟩ h
      · rw [decide_eq_false e2]; simp
end Go.Proofs.Ythhknonaebnooaa
set_option linter.unusedVariables false
set_option linter.unusedSimpArgs false
namespace Go.Proofs.Ythhknonaebnooaa
open Go.RowKit
attribute [local go_sem] cell_alloc_old

theorem mapb_info : (Try.prog.info? 65).map (fun i => (i.zero, i.size, i.bytes)) = some (some (.map none), 1, 8) := by kernel_rfl
/-- What divide leaves. -/
def DivSays (B g : Nat) (R : List PR) (w : World) (e : Ending) (w' : World) : Prop :=
  ∃ R', e = .returned (.tuple #[]) ∧ R'.length = R.length ∧ PB w' g R' ∧ PSets w' B R' ∧ ndsP R' = trimTo (ndsP R) R.length ∧
    (∀ j, j < R.length → (R'.getD j default).old = (R.getD j default).old ∧ (R'.getD j default).good = (R.getD j default).good ∧ (R'.getD j default).gone = (R'.getD j default).nd.set.isEmpty ∧ (R'.getD j default).sv = (R.getD j default).sv) ∧ Chg (fun k => k = g) w w'
theorem MSet.len_run {w : World} {mb : Nat} {ks : List Int} (h : MSet w mb ks) (ty : TypeId) : (Builtin.len_ #[65] ty #[.map (some mb)]).run Try.prog w = .ok (.int .i64 (ks.length : Int)) w := by
  obtain ⟨es, cl, h1, h2, _⟩ := h.map
  have hg : (getObj mb).run Try.prog w = .ok (.map es cl) w := by simp [getObj, Sem.run, h1]
  have hl : es.size = ks.length := by
    have := congrArg List.length h2
    simpa [setV] using this
  have hu : Try.prog.underlying 65 = some (.map 3 4) := by kernel_rfl
  simp [Builtin.len_, run_underlying hu, hg, goInt, hl]
theorem SetIs.len_run {w : World} {mb : Nat} {S : List Int} (h : SetIs w mb S) (ty : TypeId) : (Builtin.len_ #[65] ty #[.map (some mb)]).run Try.prog w = .ok (.int .i64 (S.length : Int)) w := by
  obtain ⟨ks, h1, h2⟩ := h
  rw [h1.len_run ty, h2.length_eq]

theorem nodup_idx {l : List Int} (h : l.Nodup) {i j : Nat} {z : Int} (hi : l[i]? = some z) (hj : l[j]? = some z) : i = j := by
  obtain ⟨h1, h2⟩ := List.getElem?_eq_some_iff.1 hi
  obtain ⟨h3, h4⟩ := List.getElem?_eq_some_iff.1 hj
  have hp := List.pairwise_iff_getElem.1 h
  rcases Nat.lt_trichotomy i j with hij | hij | hij
  · exact absurd (h2.trans h4.symm) (hp i j h1 h3 hij)
  · exact hij
  · exact absurd (h4.trans h2.symm) (hp j i h3 h1 hij)
theorem left_skip {l : List Int} {left : Nat → Bool} {C : Int → Prop} {e : Nat} {z : Int} (hz : l[e]? = some z) (hc : ¬ C z) (q : Int) :
    (∃ i, l[i]? = some q ∧ left i = false ∧ C q) ↔ ∃ i, l[i]? = some q ∧ (left i && !decide (i = e)) = false ∧ C q := by
  refine ⟨fun ⟨i, h1, h2, h3⟩ => ⟨i, h1, by rw [h2]; rfl, h3⟩, fun ⟨i, h1, h2, h3⟩ => ⟨i, h1, ?_, h3⟩⟩
  by_cases e1 : i = e
  · subst e1
    rw [hz] at h1
    obtain rfl := Option.some.inj h1
    exact absurd h3 hc
  · simpa [e1] using h2
theorem left_take {l : List Int} {left : Nat → Bool} {C : Int → Prop} {e : Nat} {z : Int} (hz : l[e]? = some z) (hc : C z) (he : e < l.length) (q : Int) :
    ((∃ i, l[i]? = some q ∧ left i = false ∧ C q) ∨ q = z) ↔ ∃ i, l[i]? = some q ∧ (left i && !decide (i = e)) = false ∧ C q := by
  refine ⟨fun h => ?_, fun ⟨i, h1, h2, h3⟩ => ?_⟩
  · rcases h with ⟨i, h1, h2, h3⟩ | rfl
    · exact ⟨i, h1, by rw [h2]; rfl, h3⟩
    · exact ⟨e, hz, by simp, hc⟩
  · by_cases e1 : i = e
    · subst e1
      rw [hz] at h1
      exact .inr (Option.some.inj h1).symm
    · exact .inl ⟨i, h1, by simpa [e1] using h2, h3⟩

set_option maxRecDepth 100000 in
set_option maxHeartbeats 4000000 in
theorem divide_any (B g : Nat) (c : Nat) (R : List PR) (w : World) (hpb : PB w g R) (hs : PSets w B R) (hu : UpP R) (hB : B ≤ w.heap.size) (hn0 : 0 < R.length) (hn : R.length ≤ 1000) :
    Calls Try.prog 34 #[.slice (some ⟨g, 0, none⟩) R.length c] w (DivSays B g R w) := by
  obtain ⟨i0, hti, hz0, hz1, hz2⟩ := info_parts mapb_info
  have hmk := run_make_zrow (P := Try.prog) 98 65 i0 (.map none) 8 Try.underlying98 hti hz0 hz1 hz2 rfl .i64 .i64 R.length (by omega) (by omega)
  have hmm := @run_makeMap Try.prog
  have HPB := hid hpb
  have HPS := hid hs
  have HU := hid hu
  have hgl := hpb.lt
  clear hpb hs hu
  go_enter Try.func34, Try.ntmps34
  go_upto_region 1 with (fail)
  refine wp_gen fun W hW => ?_
  have hI : DvI B w W g w.heap.size R R [] 0 0 0 [] := by
    have hb1 : Below w.heap.size w W := by rw [hW]; go_grown
    refine ⟨rfl, HPB.out.of_block (hb1.block g hgl), HPS.out.below hb1, rfl, fun j hj => ⟨rfl, rfl, rfl, rfl, rfl⟩, fun j hj => absurd hj (Nat.not_lt_zero _), ⟨Array.replicate R.length (.map none), ?_, by simp, fun q hq => absurd hq (Nat.not_lt_zero _)⟩, rfl, fun q hq => absurd hq (Nat.not_lt_zero _), fun q _ hq => absurd hq (Nat.not_lt_zero _), fun q _ hq => absurd hq (Nat.not_lt_zero _), Chg.of_new hb1, hgl, hB, fun q hq => absurd hq (Nat.not_lt_zero _), Nat.le_refl _⟩
    rw [hW]; exact heap_alloc_new w _
  have HI := hid hI
  clear hW hI hmk
  go_wp2_with fail
  go_loopw [12] (fun t wr => ∃ (i : Nat) (R' : List PR) (tk : List Nat), i ≤ R.length ∧ t = .int .i64 (i : Int) ∧ DvI B w wr g w.heap.size R R' tk i i 0 []) (fun t _ => R.length - (intOf t).toNat)
  case atStart => exact ⟨0, R, [], Nat.zero_le _, rfl, HI.out⟩
  case round =>
    obtain ⟨i, R', tk, hi, rfl, hI⟩ := hrel
    have HI := hid hI
    obtain ⟨tcur, ht1, ht2, ht3⟩ := hI.tbk
    have htl := lt_of_block ht1
    have hlen := hI.len
    have HLEN := hid hlen
    clear hI hlen
    by_cases hlt : i < R.length
    · have hil : i < R'.length := by rw [HLEN.out]; exact hlt
      have hii : (i : Int) < R.length := by omega
      obtain ⟨tv, htv⟩ : ∃ tv, tcur[i]? = some tv := ⟨_, Array.getElem?_eq_getElem (by omega)⟩
      have htc := block_cell ht1 (i := i) htv
      have htf := block_free (i := i) ht1
      obtain ⟨W2, hW2⟩ : ∃ W2, W2 = wr := ⟨_, rfl⟩
      rw [← hW2] at HI ht1 htl htc htf ⊢
      clear hW2 ht1 ht2 ht3 htv
      go_upto_region 6 with (fail)
      refine wp_gen fun W3 hW3 => ?_
      have hI3 := HI.out.take hlt HU.out hW3
      have hgp := hI3 0
      obtain ⟨g0, g1, g2, g3, g4, g5, g6⟩ := hgp.pb.cells hil
      have gf := hgp.pb.free
      have gf3 := gf (i * 7 + 3)
      have gf6 := gf (i * 7 + 6)
      have hpar := (hgp.same i hlt).2.2.2.1
      have hup := HU.out i hlt
      rw [← hpar] at hup
      obtain ⟨x, hx⟩ : ∃ x, R'.getD i default = x := ⟨_, rfl⟩
      rw [hx] at g0 g1 g2 g3 g4 g5 g6 hup
      have HX := hid hx
      have hsetx := (hI3 0).sets.set i hil
      rw [hx] at hsetx
      have HSETX := hid hsetx
      have HI3 := hid hI3
      have hs3 : W2.heap.size < W3.heap.size := by rw [hW3]; simp only [World.size_setCell, World.size_alloc]; omega
      clear hW3 hI3 hgp gf htc htf hpar hx hsetx
      by_cases hz : i = 0
      · have hp := hup.1 hz
        rw [hp] at g1
        obtain ⟨S, hS⟩ : ∃ S, S = x.nd.set := ⟨_, rfl⟩
        have hset := HSETX.out
        rw [← hS] at hset
        have hlr := hset.len_run
        obtain ⟨n, hn⟩ : ∃ n, n = S.length := ⟨_, rfl⟩
        rw [← hn] at hlr
        obtain ⟨bo, hbo⟩ : ∃ bo, ((n : Int) == 0) = bo := ⟨_, rfl⟩
        have HP := hid hp
        have HS := hid hS
        have HNN := hid hn
        have HBO := hid hbo
        have HZ := hid hz
        clear hp hS hset hn hz hup
        go_wp2_with fail
        go_roundw
        case rel =>
          have hbe : bo = S.isEmpty := by
            rw [← HBO.out, HNN.out]
            cases hS : S with
            | nil => rfl
            | cons a l => simp; omega
          have htr : trimmedZ (ndsP R') i = S := by
            unfold trimmedZ
            rw [ndsP_get R' hil, HX.out, ← HS.out]
            simp [HZ.out]
          have h0 := HI3.out 0
          have hpb' := h0.pb.set hil (j := 6) (by omega) (.bool bo) { x with gone := bo } (by rw [HX.out]; rfl)
          refine ⟨i + 1, _, _, by omega, by go_num, h0.done hlt { x with gone := bo } hpb' (fun b hb hne => Below.heap_setCell _ _ _ _ hne) (h0.chg.set _ _ (fun _ => rfl)) ?_ ?_ ?_ ?_ ?_ ?_ ?_ ?_ ?_ ?_ 0⟩
          · rw [htr, HS.out, HX.out]
          · rw [HX.out]
          · rw [HX.out]
          · rw [HX.out]
          · show bo = _; rw [hbe, HS.out]
          · exact HSETX.out
          · have := h0.sets.lo i hil; rw [HX.out] at this; exact this
          · intro j hj hne; have := h0.sets.ne i j hil (by rw [HLEN.out]; exact hj) (fun e => hne e.symm); rw [HX.out] at this; exact this
          · intro q hq; have := h0.tkm q i hq hlt; rw [HX.out] at this; exact this
          · intro q z
            have := HP.out
            rw [HX.out]
            exact ⟨fun h => (by cases h.2), fun h => by omega⟩
        case measure => simp [intOf]; omega
      · have hp := hup.2 (by omega)
        obtain ⟨pn, hpn⟩ : ∃ pn : Nat, x.nd.parent = (pn : Int) := ⟨x.nd.parent.toNat, by omega⟩
        rw [hpn] at g1 hp
        have hpl : pn < R'.length := by omega
        have HD := hid (HI3.out pn)
        have HDLT := hid (fun b => (HI3.out pn).dlt (b := b))
        have HPN := hid hpn
        have HZ := hid hz
        have hge : decide (0 ≤ (pn : Int)) = true := decide_eq_true (by omega)
        clear hpn hz hup
        go_upto_region 8 with (fail)
        refine wp_gen fun W4 hW4 => ?_
        have hb4 : Below W3.heap.size W3 W4 := by rw [hW4]; go_grown
        have hkb4 : MSet W4 W3.heap.size [] := by rw [hW4]; exact MSet.new W3
        have hs4 : W3.heap.size < W4.heap.size := by rw [hW4]; simp only [World.size_alloc]; omega
        have HB4 := hid hb4
        have HKB4 := hid hkb4
        have g3' := (hb4.cell (p := ⟨g, i * 7 + 3, none⟩) (World.block_lt_of_cell? W3 _ g3)).trans g3
        have hx4 := HSETX.out.below hb4 HSETX.out.lt
        obtain ⟨ksi, hki1, hki2⟩ := hx4
        obtain ⟨w5, hrun5, hr5, hb5, hs5⟩ := run_range_b (P := Try.prog) (T := 65) (K := 3) (E := 4) (by kernel_rfl) hki1.map
        have HR5 := hid hr5
        have HB5 := hid hb5
        have HKI := hid hki1
        have HKI2 := hid hki2
        have hs5' : W4.heap.size < w5.heap.size := by omega
        clear hW4 hb4 hkb4 hki1 hki2 hr5 hb5 hs5
        go_wp2_with fail
        obtain ⟨tk1, htk1⟩ : ∃ tk1, tk1 = tk ++ [W2.heap.size] := ⟨_, rfl⟩
        rw [← htk1] at HD HDLT
        go_loopg [6] (cntLeft ksi.length (fun _ => true)) (fun gk s6 wr => ∃ (left : Nat → Bool) (X : List Int), RngIs encZ wr x.mb W4.heap.size (setV ksi) left ∧ MSet wr W3.heap.size X ∧ DvI B w wr g w.heap.size R R' tk1 i (i + 1) pn X ∧ (∀ z, z ∈ X ↔ ∃ e, ksi[e]? = some z ∧ left e = false ∧ z ∈ (R'.getD pn default).nd.set ∧ ¬ Took R' i pn z) ∧ cntLeft ksi.length left ≤ gk)
        case atStart =>
          refine ⟨_, [], HR5.out, HKB4.out.below HB5.out hs4, (HD.out.new HB4.out).new HB5.out, fun z => ⟨fun h => (by cases h), fun h => ?_⟩, Nat.le_refl _⟩
          obtain ⟨e, _, h, _⟩ := h
          cases h
        case round =>
          obtain ⟨left, X, hr1, hk1, hd1, hX, hcl⟩ := hrel
          have HR1 := hid hr1
          have HK1 := hid hk1
          have HD1 := hid hd1
          have HX1 := hid hX
          have hwr : W4.heap.size < wr.heap.size := hr1.lt
          have hlen : (setV ksi).length = ksi.length := by simp [setV]
          clear hr1 hk1 hd1 hX hrun5 g0 g1 g2 g3 g4 g5 g6 g3'
          rcases run_next_b (P := Try.prog) HR1.out 0 with ⟨hall, hrun⟩ | ⟨e, p, w3, hi3, hli, hp3, hrun, hr3, hg3, hs3, hen⟩
          · rw [hlen] at hall
            have HALL := hid hall
            have hcs := HD1.out.pb.cells hil
            rw [HX.out] at hcs
            obtain ⟨g0, g1, g2, g3, g4, g5, g6⟩ := hcs
            have gf3 := HD1.out.pb.free (i * 7 + 3)
            have gf6 := HD1.out.pb.free (i * 7 + 6)
            have hlr := (show SetIs wr W3.heap.size X from ⟨X, HK1.out, List.Perm.refl _⟩).len_run
            obtain ⟨n, hn⟩ : ∃ n, n = X.length := ⟨_, rfl⟩
            rw [← hn] at hlr
            obtain ⟨bo, hbo⟩ : ∃ bo, ((n : Int) == 0) = bo := ⟨_, rfl⟩
            have HNN := hid hn
            have HBO := hid hbo
            have hlr' : ∀ ty, (Builtin.len_ #[65] ty #[.map (some W3.heap.size)]).run Try.prog (wr.setCell ⟨g, i * 7 + 3, none⟩ (.map (some W3.heap.size))) = .ok (.int .i64 (n : Int)) (wr.setCell ⟨g, i * 7 + 3, none⟩ (.map (some W3.heap.size))) := fun ty => by
              have hne := HD1.out.tb_ne HK1.out
              have hs : SetIs (wr.setCell ⟨g, i * 7 + 3, none⟩ (.map (some W3.heap.size))) W3.heap.size X := ⟨X, HK1.out.of_block (Below.heap_setCell _ _ _ _ hne.2), List.Perm.refl _⟩
              rw [hs.len_run ty, HNN.out]
            clear hall hn hlr
            go_wp2_with fail
            go_roundw
            case rel =>
              have hpos : 0 < i := by have := HZ.out; omega
              have hd1 := HD1.out
              have hund : ∀ j, j < R'.length → (j = 0 → (R'.getD j default).nd.parent = -1) := fun j hj e => by
                rw [(hd1.same j (by rw [← HLEN.out]; exact hj)).2.2.2.1]
                exact (HU.out j (by rw [← HLEN.out]; exact hj)).1 e
              have htm := fun z => mem_trimmed hil hpos hund (by rw [HX.out]; exact HPN.out) hpl z
              have hxm : ∀ z, z ∈ X ↔ z ∈ trimmedZ (ndsP R') i := fun z => by
                rw [HX1.out z, htm z, HX.out, ← HKI2.out.mem_iff]
                refine ⟨fun ⟨e, h1, _, h3⟩ => ⟨List.mem_of_getElem? h1, h3⟩, fun ⟨h1, h3⟩ => ?_⟩
                obtain ⟨e, he⟩ := List.getElem?_of_mem h1
                exact ⟨e, he, HALL.out e (List.getElem?_eq_some_iff.1 he).1, h3⟩
              have hndx : (trimmedZ (ndsP R') i).Nodup := by
                unfold trimmedZ
                rw [ndsP_get R' hil, HX.out]
                exact List.Pairwise.filter _ ((List.Perm.nodup_iff HKI2.out).1 HKI.out.nd)
              have hperm := perm_of HK1.out.nd hndx hxm
              have hbe : bo = (trimmedZ (ndsP R') i).isEmpty := by
                rw [← HBO.out, HNN.out, hperm.length_eq]
                cases hS : trimmedZ (ndsP R') i with
                | nil => rfl
                | cons a l => simp; omega
              obtain ⟨x1, hx1⟩ : ∃ x1 : PR, x1 = { x with nd := { x.nd with set := trimmedZ (ndsP R') i }, mb := W3.heap.size } := ⟨_, rfl⟩
              have hp1 := hd1.pb.set hil (j := 3) (by omega) (.map (some W3.heap.size)) x1 (by rw [hx1, HX.out]; rfl)
              have hil1 : i < (R'.set i x1).length := by rw [List.length_set]; exact hil
              have hat : (R'.set i x1).getD i default = x1 := by simp [List.getD, hil]
              have hp2 := hp1.set hil1 (j := 6) (by omega) (.bool bo) { x1 with gone := bo } (by rw [hat]; rfl)
              rw [List.set_set] at hp2
              refine ⟨i + 1, _, _, by omega, by go_num, hd1.done hlt { x1 with gone := bo } hp2 (fun b hb hne => (Below.heap_setCell _ _ _ _ hne).trans (Below.heap_setCell _ _ _ _ hne)) ((hd1.chg.set _ _ (fun _ => rfl)).set _ _ (fun _ => rfl)) ?_ ?_ ?_ ?_ ?_ ?_ ?_ ?_ ?_ ?_ 0⟩
              · rw [HX.out, hx1]
              · rw [HX.out, hx1]
              · rw [HX.out, hx1]
              · rw [HX.out, hx1]
              · show bo = _; rw [hbe, hx1]
              · rw [hx1]; exact ⟨X, HK1.out, hperm⟩
              · rw [hx1]
                show B ≤ W3.heap.size
                have := HD.out.chg.size; omega
              · intro j hj hne
                rw [hx1]
                have := HDLT.out (R'.getD j default).mb (.inr (.inr (.inl ⟨j, by rw [HLEN.out]; exact hj, rfl⟩)))
                show W3.heap.size ≠ _
                omega
              · intro q hq
                rw [hx1]
                have := HDLT.out (tk1.getD q 0) (.inr (.inr (.inr ⟨q, hq, rfl⟩)))
                show _ ≠ W3.heap.size
                omega
              · intro q z
                rw [HX.out, hx1, HPN.out, hxm z]
                refine ⟨fun h => ⟨by rw [h.1], h.2⟩, fun h => ⟨by have := h.1; omega, h.2⟩⟩
            case measure => simp [intOf]; omega
          · rw [hlen] at hi3
            obtain ⟨z, hz, rfl⟩ : ∃ z, ksi[e]? = some z ∧ p = (z, .bool true) := by
              unfold setV at hp3
              rw [List.getElem?_map] at hp3
              rcases hh : ksi[e]? with _ | z
              · rw [hh] at hp3; cases hp3
              · rw [hh] at hp3
                exact ⟨z, rfl, (Option.some.inj hp3).symm⟩
            obtain ⟨y, hy⟩ : ∃ y, R'.getD pn default = y := ⟨_, rfl⟩
            obtain ⟨tp, htp⟩ : ∃ tp, tk1.getD pn 0 = tp := ⟨_, rfl⟩
            have hrun' : (Instr.next (.pointer (some ⟨W4.heap.size, 0, none⟩)) false 0).run Try.prog wr = .ok (.tuple #[.bool true, .int .i64 z, .bool true]) w3 := hrun
            have hen' : (Instr.entry (.pointer (some ⟨W4.heap.size, 0, none⟩))).run Try.prog w3 = .ok (.tuple #[.int .i64 z, .bool true]) w3 := hen
            have hd3 := HD1.out.grown hg3 (fun b hd => by have := HDLT.out b hd; omega) (by have := HD1.out.chg.size; have := HD.out.chg.size; omega)
            have hk3 : MSet w3 W3.heap.size X := HK1.out.of_block (hg3.block _ HK1.out.lt (by simp; omega))
            obtain ⟨kst, hkt, hkm⟩ := hd3.tks pn (by omega)
            obtain ⟨cur3, hc31, hc32, hc33⟩ := hd3.tbk
            have htc3 := block_cell hc31 (hc33 pn (by omega))
            rw [htp] at hkt htc3
            have hcs := hd3.pb.cells hil
            rw [HX.out, HPN.out] at hcs
            have hct := hd3.pb.cells hpl
            have hsy := hd3.sets.set pn hpl
            rw [hy] at hct hsy
            have hl1 := hsy.look z
            have hl2 := hkt.look z
            obtain ⟨-, g1, -, g3, -⟩ := hcs
            obtain ⟨-, -, -, p3, -⟩ := hct
            have hpi : (pn : Int) < R.length := by have := HLEN.out; omega
            have HY := hid hy
            have HTP := hid htp
            have HD3 := hid hd3
            have HKT := hid hkt
            have HKM := hid hkm
            have HK3 := hid hk3
            have HR3 := hid hr3
            have HEZ := hid hz
            have HG3 := hid hg3
            have HLI := hid hli
            have hs3w := hs3
            clear hrun hen hd3 hkt hkm hk3 hr3 hz hg3 hp3 hli hc31 hc32 hc33 hsy hy htp hs3
            by_cases c1 : z ∈ y.nd.set
            · rw [decide_eq_true c1] at hl1
              by_cases c2 : z ∈ kst
              · rw [decide_eq_true c2] at hl2
                have HC2 := hid c2
                clear c1 c2
                go_wp2_with fail
                go_roundg (cntLeft ksi.length (fun j => left j && !decide (j = e)))
                case rel =>
                  refine ⟨_, X, HR3.out, HK3.out, HD3.out, fun q => (HX1.out q).trans ?_, Nat.le_refl _⟩
                  have hno : ¬ (z ∈ (R'.getD pn default).nd.set ∧ ¬ Took R' i pn z) := fun h => by
                    rcases (HKM.out z).1 HC2.out with h1 | ⟨_, h1⟩
                    · exact h.2 h1
                    · obtain ⟨e', he', hl', _⟩ := (HX1.out z).1 h1
                      have := nodup_idx HKI.out.nd he' HEZ.out
                      subst this
                      rw [HLI.out] at hl'; cases hl'
                  exact left_skip (C := fun z => z ∈ (R'.getD pn default).nd.set ∧ ¬ Took R' i pn z) HEZ.out hno q
                all_goals (have := cntLeft_less hi3 HLI.out; omega)
              · rw [decide_eq_false c2] at hl2
                have HC1 := hid c1
                have HC2 := hid c2
                obtain ⟨w8, hrunk, hm8, hg8, hs8⟩ := HK3.out.put z
                have hd8 := HD3.out.grown hg8 (fun b hd => by have := HDLT.out b hd; omega) (by have := HD.out.chg.size; omega)
                have htpl : tp < W3.heap.size := by have := HDLT.out tp (.inr (.inr (.inr ⟨pn, by omega, HTP.out.symm⟩))); exact this
                have hkt8 : MSet w8 tp kst := HKT.out.of_block (hg8.block _ HKT.out.lt (by simp; omega))
                obtain ⟨w9, hrunt, hm9, hg9, hs9⟩ := hkt8.put z
                have hcs := hd8.pb.cells hil
                rw [HX.out, HPN.out] at hcs
                obtain ⟨-, k1, -, -, -⟩ := hcs
                obtain ⟨cur8, hc81, hc82, hc83⟩ := hd8.tbk
                have htc8 := block_cell hc81 (hc83 pn (by omega))
                rw [HTP.out] at htc8
                have HD8 := hid hd8
                have HM8 := hid hm8
                have HG8 := hid hg8
                have HKT8 := hid hkt8
                have HM9 := hid hm9
                have HG9 := hid hg9
                clear c1 c2 hd8 hm8 hg8 hkt8 hm9 hg9 hc81 hc82 hc83
                go_wp2_with fail
                go_roundg (cntLeft ksi.length (fun j => left j && !decide (j = e)))
                case rel =>
                  have hkx : MSet w9 W3.heap.size (addK X z) := HM8.out.of_block (HG9.out.block _ HM8.out.lt (by simp; omega))
                  have hxm : x.mb < W3.heap.size := by have := HDLT.out x.mb (.inr (.inr (.inl ⟨i, hil, by rw [HX.out]⟩))); exact this
                  have hxt : x.mb ≠ tp := by
                    have := HD3.out.tkm pn i (by omega) hlt
                    rw [HTP.out, HX.out] at this
                    exact fun e => this e.symm
                  have hb8 := HG8.out.block x.mb HR3.out.map.lt (by simp; omega)
                  have hb8' := HG8.out.block W4.heap.size HR3.out.lt (by simp; omega)
                  have hr8 := HR3.out.of_block hb8 hb8'
                  have hr9 := hr8.of_block (HG9.out.block x.mb hr8.map.lt (by simp; exact fun e => hxt e)) (HG9.out.block W4.heap.size hr8.lt (by simp; omega))
                  refine ⟨_, addK X z, hr9, hkx, HD8.out.put (p := pn) (ks := kst) (z := z) (by omega) (by rw [HTP.out]; exact HKT8.out) (by rw [HTP.out]; exact HG9.out) (by rw [HTP.out]; exact HM9.out) (HD8.out.tlo pn (by omega)) (fun q => by have := HKM.out q; simpa using this) (fun q => mem_addK), fun q => ?_, Nat.le_refl _⟩
                  rw [mem_addK, HX1.out q]
                  have hyes : z ∈ (R'.getD pn default).nd.set ∧ ¬ Took R' i pn z := ⟨by rw [HY.out]; exact HC1.out, fun h => HC2.out ((HKM.out z).2 (.inl h))⟩
                  exact left_take (C := fun z => z ∈ (R'.getD pn default).nd.set ∧ ¬ Took R' i pn z) HEZ.out hyes hi3 q
                all_goals (have := cntLeft_less hi3 HLI.out; omega)
            · rw [decide_eq_false c1] at hl1
              have HC1 := hid c1
              clear c1
              go_wp2_with fail
              go_roundg (cntLeft ksi.length (fun j => left j && !decide (j = e)))
              case rel =>
                refine ⟨_, X, HR3.out, HK3.out, HD3.out, fun q => (HX1.out q).trans ?_, Nat.le_refl _⟩
                exact left_skip (C := fun z => z ∈ (R'.getD pn default).nd.set ∧ ¬ Took R' i pn z) HEZ.out (fun h => HC1.out (by rw [← HY.out]; exact h.1)) q
              all_goals (have := cntLeft_less hi3 HLI.out; omega)
    · obtain rfl : i = R.length := by omega
      go_wp2_with fail
      go_end0
      have h := HI.out
      exact ⟨R', rfl, h.len, h.pb, h.sets, h.nds, fun j hj => ⟨(h.same j hj).1, (h.same j hj).2.1, h.gone j hj hj, (h.same j hj).2.2.2.2⟩, h.chg⟩
end Go.Proofs.Ythhknonaebnooaa
set_option linter.unusedVariables false
set_option linter.unusedSimpArgs false
namespace Go.Proofs.Ythhknonaebnooaa
open Go.RowKit
attribute [local go_sem] cell_alloc_old

/-- Is node i taken out, is it good? (n: so many steps up at most.) -/
def flgN (L : List Nd) : Nat → Int → Bool × Bool
  | 0, _ => (true, false)
  | n + 1, i =>
    let gone := (nd L i.toNat).set.isEmpty || (decide (0 ≤ (nd L i.toNat).parent) && ((flgN L n (nd L i.toNat).parent).2 || (flgN L n (nd L i.toNat).parent).1))
    (gone, !gone && decide ((unionZ L i).length = (nd L i.toNat).set.length))
def goneL (L : List Nd) (i : Nat) : Bool := (flgN L L.length i).1
def goodL (L : List Nd) (i : Nat) : Bool := (flgN L L.length i).2
theorem flgN_fuel {L : List Nd} (hu : Up L) : ∀ (n m i : Nat), i < L.length → i < n → i < m → flgN L n i = flgN L m i
  | 0, _, _, _, h, _ => absurd h (Nat.not_lt_zero _)
  | _, 0, _, _, _, h => absurd h (Nat.not_lt_zero _)
  | n + 1, m + 1, i, hi, hn, hm => by
    have h1 := hu i hi
    unfold flgN
    rw [Int.toNat_natCast]
    by_cases h0 : 0 ≤ (nd L i).parent
    · obtain ⟨p, hp⟩ : ∃ p : Nat, (nd L i).parent = (p : Int) := ⟨(nd L i).parent.toNat, by omega⟩
      rw [hp, flgN_fuel hu n m p (by omega) (by omega) (by omega)]
    · rw [decide_eq_false h0]; simp
/-- What is said of parents. -/
def upB (L : List Nd) (i : Nat) : Bool := decide (0 ≤ (nd L i).parent) && (goodL L (nd L i).parent.toNat || goneL L (nd L i).parent.toNat)
theorem flg_eq {L : List Nd} (hu : Up L) {i : Nat} (hi : i < L.length) : goneL L i = ((nd L i).set.isEmpty || upB L i) ∧ goodL L i = (!goneL L i && decide ((unionZ L (i : Int)).length = (nd L i).set.length)) := by
  have e : flgN L L.length i = flgN L (L.length + 1) i := flgN_fuel hu _ _ i hi hi (by omega)
  have h1 := hu i hi
  have key : goneL L i = ((nd L i).set.isEmpty || upB L i) := by
    unfold goneL upB
    rw [e]
    show ((nd L (i : Int).toNat).set.isEmpty || (decide (0 ≤ (nd L (i : Int).toNat).parent) && ((flgN L L.length (nd L (i : Int).toNat).parent).2 || (flgN L L.length (nd L (i : Int).toNat).parent).1))) = _
    rw [Int.toNat_natCast]
    by_cases h0 : 0 ≤ (nd L i).parent
    · obtain ⟨p, hp⟩ : ∃ p : Nat, (nd L i).parent = (p : Int) := ⟨(nd L i).parent.toNat, by omega⟩
      rw [hp, Int.toNat_natCast]; rfl
    · rw [decide_eq_false h0]; simp
  refine ⟨key, ?_⟩
  unfold goodL goneL
  rw [e]
  show (!(flgN L (L.length + 1) i).1 && decide ((unionZ L (i : Int)).length = (nd L (i : Int).toNat).set.length)) = _
  rw [Int.toNat_natCast]

/-- How many states the children of node p among the first k have. -/
def cntTo (R : List PR) (k p : Nat) : Nat := (unionZ ((ndsP R).take k) (p : Int)).length
theorem cntTo_snoc (R : List PR) {k : Nat} (p : Nat) (hk : k < R.length) : cntTo R (k + 1) p = cntTo R k p + (if (R.getD k default).nd.parent = (p : Int) then (R.getD k default).nd.set.length else 0) := by
  unfold cntTo
  rw [union_snoc _ _ (by rw [ndsP_len]; exact hk), ndsP_get R hk, List.length_append]
  split <;> simp
theorem cntTo_all (R : List PR) (p : Nat) : cntTo R R.length p = (unionZ (ndsP R) (p : Int)).length := by
  unfold cntTo
  rw [← ndsP_len, List.take_length]
/-- What collapse leaves. -/
def ColSays (g : Nat) (R : List PR) (w : World) (e : Ending) (w' : World) : Prop :=
  ∃ R', e = .returned (.tuple #[]) ∧ R'.length = R.length ∧ PB w' g R' ∧ (∀ j, j < R.length → R'.getD j default = { R.getD j default with good := goodL (ndsP R) j, gone := goneL (ndsP R) j }) ∧ Chg (fun k => k = g) w w'
/-- While it counts: the counts cl in the block bb. -/
structure CnI (w wr : World) (g : Nat) (R : List PR) (k : Nat) (cl : List Int) : Prop where
  below : Below w.heap.size w wr
  row : wr.heap[w.heap.size]? = some (.cells (cl.map (.int .i64)).toArray 3 (0, 0))
  len : cl.length = R.length
  at_ : ∀ p, p < R.length → cl.getD p 0 = (cntTo R k p : Int)
theorem CnI.next {w wr wr' : World} {g : Nat} {R : List PR} {k : Nat} {cl : List Int} (h : CnI w wr g R k cl) (hb : Below wr.heap.size wr wr') : CnI w wr' g R k cl :=
  ⟨h.below.trans (hb.mono h.below.size), (hb.block _ (lt_of_block h.row)).trans h.row, h.len, h.at_⟩
theorem CnI.cell {w wr : World} {g : Nat} {R : List PR} {k : Nat} {cl : List Int} (h : CnI w wr g R k cl) {p : Nat} (hp : p < R.length) : wr.cell? ⟨w.heap.size, p, none⟩ = some (.int .i64 (cntTo R k p : Int)) ∧ wr.frozen? ⟨w.heap.size, p, none⟩ = false := by
  refine ⟨block_cell h.row ?_, block_free h.row⟩
  have hl := h.len
  have := h.at_ p hp
  rw [List.getD_eq_getElem?_getD, List.getElem?_eq_getElem (by omega)] at this
  simp only [Option.getD_some] at this
  simp [show p < cl.length by omega, this]
theorem CnI.put {w wr wr' : World} {g : Nat} {R : List PR} {k : Nat} {cl : List Int} (h : CnI w wr g R k cl) {p : Nat} (hk : k < R.length) (hp : p < R.length) (hpar : (R.getD k default).nd.parent = (p : Int)) {v : Int} (hv : v = (cntTo R (k + 1) p : Int)) (hw : wr' = wr.setCell ⟨w.heap.size, p, none⟩ (.int .i64 v)) : CnI w wr' g R (k + 1) (cl.set p v) := by
  refine ⟨by rw [hw]; exact h.below.setCell (p := ⟨w.heap.size, p, none⟩) (Nat.le_refl _) _, ?_, by rw [List.length_set]; exact h.len, fun q hq => ?_⟩
  · rw [hw, set_block h.row (i := p) (.int .i64 v), List.map_set]
    simp
  · have hl := h.len
    by_cases e : p = q
    · subst e
      rw [← hv]; simp [List.getD, hl, hp]
    · have e1 : (cl.set p v).getD q 0 = cl.getD q 0 := by simp [List.getD, e]
      rw [e1, h.at_ q hq, cntTo_snoc R q hk, hpar, if_neg (by omega)]; simp
theorem CnI.skip {w wr : World} {g : Nat} {R : List PR} {k : Nat} {cl : List Int} (h : CnI w wr g R k cl) (hk : k < R.length) (hpar : (R.getD k default).nd.parent < 0) : CnI w wr g R (k + 1) cl := by
  refine ⟨h.below, h.row, h.len, fun q hq => ?_⟩
  rw [h.at_ q hq, cntTo_snoc R q hk, if_neg (by omega)]; simp
theorem cntTo_le (R : List PR) {m : Nat} (hm : ∀ j, j < R.length → (R.getD j default).nd.set.length ≤ m) {k : Nat} (hk : k ≤ R.length) (p : Nat) : cntTo R k p ≤ k * m := by
  unfold cntTo
  refine union_len (ndsP R) _ (m := m) (fun j hj => ?_) k (by rw [ndsP_len]; exact hk)
  rw [ndsP_len] at hj
  rw [ndsP_get R hj]; exact hm j hj
end Go.Proofs.Ythhknonaebnooaa
