/-
  Walk of the reference: Valid (trees).
  The step of a tree as the program makes it, as a function.
  The automaton of the chapter's examples.
  Walk of the laws' head: the examples.
  Walk of the laws' right.
-/
import Derived.Test.YthhknonaebnooaaZ11
import Derived.Test.YthhknonaebnooaaZ10
set_option linter.unusedVariables false
set_option linter.unusedSimpArgs false
namespace Go.Proofs.Ythhknonaebnooaa
open Go.RowKit
attribute [local go_sem] cell_alloc_old

set_option maxHeartbeats 4000000 in
theorem rtvalid_any {D E : Dom} (v : Value) (b : Bu) (A : Option Addr) (c : Nat) (t : List Nd) (w : World) (h : RdBu w D v b) (ht : RdN w E A c t) (htl : t.length ≤ 10000) (hset : ∀ k, k < t.length → (nd t k).set.length ≤ 3000) :
    Calls Try.prog 20 #[v, .slice A t.length c] w fun e w' => e = .returned (.bool (treeB b t)) ∧ Below w.heap.size w w' := by
  have HV := hid h.old
  have HT := hid ht.old
  have HSE := hid hset
  obtain ⟨As, cs, An, cn, rfl, ho, hn⟩ := h
  have hnl := hn.len.1
  clear ho hn ht hset
  obtain ⟨W, hW⟩ : ∃ W, W = w.alloc (.cells #[.int .i64 b.letters, .slice As b.start.length cs, .slice An b.next.length cn] 25) := ⟨_, rfl⟩
  have hbox : HasB W w.heap.size #[.int .i64 b.letters, .slice As b.start.length cs, .slice An b.next.length cn] b := by rw [hW]; exact HasB.new HV.out
  have hcall := rbvalid_any (.agg #[.int .i64 b.letters, .slice As b.start.length cs, .slice An b.next.length cn]) b W hbox.rd
  have hb1 : Below w.heap.size w W := by rw [hW]; go_grown
  have HBOX := hid hbox
  have HB1 := hid hb1
  have hsz : w.heap.size < W.heap.size := by rw [hW]; simp
  obtain ⟨bv, hbv⟩ : ∃ bv, buchiB b = bv := ⟨_, rfl⟩
  rw [hbv] at hcall
  rw [hW] at hcall
  have HCALL := hid hcall
  have HW := hid hW
  have HBV := hid hbv
  clear hW hbox hcall hb1 hbv
  cases bv
  · go_enter Try.func20, Try.ntmps20
    go_wp2_with ((refine HCALL.out.mono ?_); rintro e w1 ⟨rfl, hb2⟩; rw [← HW.out] at hb2; have HB2 := hid hb2; clear hb2)
    go_ret
    exact ⟨ret_bool (by unfold treeB; rw [HBV.out]; rfl), HB1.out.trans (HB2.out.mono (by omega))⟩
  · have hn3 := buchi_len HBV.out
    by_cases hle : t.length ≤ b.next.length
    · have hld : decide ((b.next.length : Int) < (t.length : Int)) = false := decide_eq_false (by omega)
      have hln : decide (b.next.length < t.length) = false := decide_eq_false (by omega)
      have HLE := hid hle
      clear hle
      go_enter Try.func20, Try.ntmps20
      go_wp2_with ((refine HCALL.out.mono ?_); rintro e w1 ⟨rfl, hb2⟩; rw [← HW.out] at hb2; have HB2 := hid (HB1.out.trans (hb2.mono (Nat.le_of_lt hsz))); have HBX := hid (HBOX.out.below hb2); obtain ⟨x0, x1, x2, xl⟩ := (HBOX.out.below hb2).cells; clear hb2)
      go_loopw [5] (fun q wr => ∃ k : Nat, k ≤ t.length ∧ q = .int .i64 (k : Int) ∧ SoFar k (nodeB b.next.length t) ∧ Below w1.heap.size w1 wr) (fun q _ => t.length - (intOf q).toNat)
      case atStart => exact ⟨0, Nat.zero_le _, rfl, SoFar.zero _, Below.refl _ _⟩
      case round =>
        obtain ⟨k, hk, rfl, hso, hb3⟩ := hrel
        have HSO := hid hso
        have HB3 := hid hb3
        have HBXR := hid (HBX.out.below hb3)
        obtain ⟨z0, z1, z2, zl⟩ := (HBX.out.below hb3).cells
        have HBW := hid (HB2.out.trans (hb3.mono HB2.out.size))
        clear hso hb3
        by_cases hlk : k < t.length
        · have hki : (k : Int) < t.length := by omega
          obtain ⟨nv, hnv⟩ : ∃ nv, nodeB b.next.length t k = nv := ⟨_, rfl⟩
          have hnc := node_any (.agg #[.int .i64 b.letters, .slice As b.start.length cs, .slice An b.next.length cn]) b A c t k wr HBXR.out.rd (HT.out.keep (Keeps.of_below HBW.out fun _ h => h)) hlk hn3 htl HSE.out
          rw [hnv] at hnc
          have HNC := hid hnc
          have HNV := hid hnv
          clear hnc hnv
          cases nv
          · go_wp2_with ((refine HNC.out.mono ?_); rintro e w4 ⟨rfl, hb4⟩; have HB4 := hid hb4; clear hb4)
            go_ret
            refine ⟨ret_bool (by unfold treeB; rw [HBV.out, allN_false hlk HNV.out]; simp), HBW.out.trans (HB4.out.mono HBW.out.size)⟩
          · go_wp2_with ((refine HNC.out.mono ?_); rintro e w4 ⟨rfl, hb4⟩; have HB4 := hid hb4; clear hb4)
            go_roundw
            case rel => exact ⟨k + 1, by omega, by go_num, HSO.out.succ HNV.out, HB3.out.trans (HB4.out.mono HB3.out.size)⟩
            case measure => simp [intOf]; omega
        · go_wp2_with fail
          go_ret
          exact ⟨ret_bool (by unfold treeB; rw [HBV.out, HSO.out.all (by omega), decide_eq_true HLE.out]; rfl), HBW.out⟩
    · have hld : decide ((b.next.length : Int) < (t.length : Int)) = true := decide_eq_true (by omega)
      have hln : decide (b.next.length < t.length) = true := decide_eq_true (by omega)
      have HLE := hid hle
      clear hle
      go_enter Try.func20, Try.ntmps20
      go_wp2_with ((refine HCALL.out.mono ?_); rintro e w1 ⟨rfl, hb2⟩; rw [← HW.out] at hb2; have HB2 := hid hb2; obtain ⟨x0, x1, x2, xl⟩ := (HBOX.out.below hb2).cells; clear hb2)
      go_ret
      exact ⟨ret_bool (by unfold treeB; rw [HBV.out, decide_eq_false HLE.out]; rfl), HB1.out.trans (HB2.out.mono (by omega))⟩
end Go.Proofs.Ythhknonaebnooaa
set_option linter.unusedVariables false
set_option linter.unusedSimpArgs false
namespace Go.Proofs.Ythhknonaebnooaa
open Go.RowKit

/-- New names for the nodes of a list that are not skipped, among the first k; and the next number. -/
def nmL (used : List Int) (L : List Nd) (sk : Nat → Bool) : Nat → List Nd × Int
  | 0 => (L, 1)
  | k + 1 => if sk k then nmL used L sk k else ((nmL used L sk k).1.set k { nd L k with name := freeN used used.length (nmL used L sk k).2 }, freeN used used.length (nmL used L sk k).2 + 1)
def listL (b : Bu) (t : List Nd) (a : Int) : List Nd := trimTo (grownZ b t a) (2 * t.length)
def skipL (L : List Nd) (n i : Nat) : Bool := decide (i < n) || goneL L i
def lastL (b : Bu) (t : List Nd) (a : Int) : List Nd := (nmL (namesZ t) (listL b t a) (skipL (listL b t a) t.length) (2 * t.length)).1
def sortM (l : List Int) : List Int := l.mergeSort fun x y => decide (x ≤ y)
/-- What the program's Step returns. -/
def stepF (b : Bu) (t : List Nd) (a : Int) : StepR :=
  if treeB b t = true ∧ 0 ≤ a ∧ a < b.letters then
    ⟨keepZ (lastL b t a) (fun i => !goneL (listL b t a) i), sortM (((List.range (2 * t.length)).filter (goodL (listL b t a))).map fun i => (nd (lastL b t a) i).name), sortM (((List.range t.length).filter (goneL (listL b t a))).map fun i => (nd t i).name)⟩
  else ⟨[], [], []⟩
theorem listL_len (b : Bu) (t : List Nd) (a : Int) : (listL b t a).length = 2 * t.length := by unfold listL; rw [trimTo_len, grown_len]
theorem nmL_len (used : List Int) (L : List Nd) (sk : Nat → Bool) : ∀ k, (nmL used L sk k).1.length = L.length
  | 0 => rfl
  | k + 1 => by
    unfold nmL
    split
    · exact nmL_len used L sk k
    · rw [List.length_set]; exact nmL_len used L sk k
theorem lastL_len (b : Bu) (t : List Nd) (a : Int) : (lastL b t a).length = 2 * t.length := by unfold lastL; rw [nmL_len, listL_len]
/-- Names alone change. -/
theorem nmL_same (used : List Int) (L : List Nd) (sk : Nat → Bool) : ∀ k i, (nd (nmL used L sk k).1 i).parent = (nd L i).parent ∧ (nd (nmL used L sk k).1 i).set = (nd L i).set ∧ ((k ≤ i ∨ sk i = true) → (nd (nmL used L sk k).1 i).name = (nd L i).name)
  | 0, i => ⟨rfl, rfl, fun _ => rfl⟩
  | k + 1, i => by
    have ih := nmL_same used L sk k i
    unfold nmL
    split
    · exact ⟨ih.1, ih.2.1, fun h => ih.2.2 (h.elim (fun h => .inl (by omega)) .inr)⟩
    · rename_i hk
      by_cases e : k = i
      · subst e
        by_cases hl : k < (nmL used L sk k).1.length
        · have e1 : nd ((nmL used L sk k).1.set k { nd L k with name := freeN used used.length (nmL used L sk k).2 }) k = { nd L k with name := freeN used used.length (nmL used L sk k).2 } := by unfold nd; simp [List.getD, hl]
          rw [e1]
          exact ⟨rfl, rfl, fun h => h.elim (fun h => by omega) (fun h => absurd h hk)⟩
        · rw [List.set_eq_of_length_le (by omega)]
          exact ⟨ih.1, ih.2.1, fun h => h.elim (fun h => by omega) (fun h => absurd h hk)⟩
      · have e1 : nd ((nmL used L sk k).1.set k { nd L k with name := freeN used used.length (nmL used L sk k).2 }) i = nd (nmL used L sk k).1 i := by unfold nd; simp [List.getD, e]
        rw [e1]
        exact ⟨ih.1, ih.2.1, fun h => ih.2.2 (h.elim (fun h => .inl (by omega)) .inr)⟩
theorem nmP_nmL (used : List Int) (R : List PR) (sk : Nat → Bool) (h : ∀ i, i < R.length → ((R.getD i default).old || (R.getD i default).gone) = sk i) : ∀ k, k ≤ R.length → ndsP (nmP used R k).1 = (nmL used (ndsP R) sk k).1 ∧ (nmP used R k).2 = (nmL used (ndsP R) sk k).2
  | 0, _ => ⟨rfl, rfl⟩
  | k + 1, hk => by
    have ih := nmP_nmL used R sk h k (by omega)
    have hs := h k (by omega)
    unfold nmP nmL
    rw [hs]
    split
    · exact ih
    · refine ⟨?_, by rw [ih.2]⟩
      rw [ndsP_set, ih.1, ih.2, ndsP_get R (by omega)]
theorem keepTo_congr (L : List Nd) {m m' : Nat → Bool} : ∀ k, (∀ i, i < k → m i = m' i) → keepTo L m k = keepTo L m' k
  | 0, _ => rfl
  | k + 1, h => by
    have ih := keepTo_congr L k fun i hi => h i (by omega)
    unfold keepTo
    rw [ih, h k (by omega)]
theorem filter_prefix {α : Type} (p : α → Bool) (d : α) (l : List α) (n : Nat) (h : ∀ j, j < l.length → p (l.getD j d) = decide (j < n)) : ∀ k, k ≤ l.length → (l.take k).filter p = l.take (min k n)
  | 0, _ => by simp
  | k + 1, hk => by
    have hx : l[k] = l.getD k d := by simp [List.getD, show k < l.length by omega]
    have ih := filter_prefix p d l n h k (by omega)
    rw [List.take_succ_eq_append_getElem (by omega), List.filter_append, ih, hx]
    have hp := h k (by omega)
    by_cases e : k < n
    · rw [decide_eq_true e] at hp
      have e1 : min k n = k := by omega
      have e2 : min (k + 1) n = k + 1 := by omega
      rw [e1, e2, List.take_succ_eq_append_getElem (by omega), hx]
      clear hx
      generalize l.getD k d = y at hp ⊢
      simp [hp]
    · rw [decide_eq_false e] at hp
      have e1 : min (k + 1) n = min k n := by omega
      rw [e1]
      clear hx
      generalize l.getD k d = y at hp ⊢
      simp [hp]
theorem filter_index {α β : Type} (p : α → Bool) (f : α → β) (d : α) (l : List α) (q : Nat → Bool) (g : Nat → β) (hq : ∀ j, j < l.length → p (l.getD j d) = q j) (hg : ∀ j, j < l.length → f (l.getD j d) = g j) : ∀ k, k ≤ l.length → ((l.take k).filter p).map f = ((List.range k).filter q).map g
  | 0, _ => by simp
  | k + 1, hk => by
    have hx : l[k] = l.getD k d := by simp [List.getD, show k < l.length by omega]
    have ih := filter_index p f d l q g hq hg k (by omega)
    rw [List.take_succ_eq_append_getElem (by omega), List.filter_append, List.map_append, ih, hx, List.range_succ, List.filter_append, List.map_append]
    have h1 := hq k (by omega)
    have h2 := hg k (by omega)
    clear hx
    generalize l.getD k d = y at h1 h2 ⊢
    cases e : q k
    · rw [e] at h1; simp [h1, e]
    · rw [e] at h1; simp [h1, e, h2]
/-- The rows determine what is returned. -/
theorem rows_step {b : Bu} {t : List Nd} {a : Int} (hy : treeB b t = true ∧ 0 ≤ a ∧ a < b.letters) {R : List PR} (h : Rows4 b t a R) {T : List Nd} {G B : List Int} (ho : OutP R T G B) : (⟨T, G, B⟩ : StepR) = stepF b t a := by
  obtain ⟨R3, hl, hn, hf, hR⟩ := h.ex
  have hn' : ndsP R3 = listL b t a := hn
  have hold : ∀ j, j < R3.length → (R3.getD j default).old = decide (j < t.length) := fun j hj => (hf j hj).1
  have hnm : ∀ j, j < t.length → (nd (listL b t a) j).name = (nd t j).name := fun j hj => by
    unfold listL
    rw [(trimTo_sub (grownZ b t a) (2 * t.length) (by rw [grown_len]; omega) j).2.2, grownP_get b t a (by omega)]
    unfold grownP
    rw [if_pos hj]
  have hused : (R3.filter (·.old)).map (fun x => x.nd.name) = namesZ t := by
    have h1 := filter_prefix (fun x : PR => x.old) default R3 t.length hold R3.length (Nat.le_refl _)
    rw [List.take_length, hl, show min (2 * t.length) t.length = t.length by omega] at h1
    rw [h1]
    unfold namesZ
    apply List.ext_getElem
    · simp; omega
    · intro i h2 h3
      simp only [List.length_map, List.length_take] at h2 h3
      rw [List.getElem_map, List.getElem_map, List.getElem_take]
      have h4 := hnm i h3
      rw [← hn', ndsP_get R3 (by omega)] at h4
      have e1 : R3.getD i default = R3[i]'(by omega) := by simp [List.getD, show i < R3.length by omega]
      have e2 : nd t i = t[i] := by simp [nd, List.getD, h3]
      rw [e1, e2] at h4
      exact h4
  rw [hused] at hR
  have hsk : ∀ i, i < R3.length → ((R3.getD i default).old || (R3.getD i default).gone) = skipL (listL b t a) t.length i := fun i hi => by
    rw [(hf i hi).1, (hf i hi).2.2, hn']; rfl
  have hlast : ndsP R = lastL b t a := by
    rw [hR]
    have := (nmP_nmL (namesZ t) R3 _ hsk R3.length (Nat.le_refl _)).1
    rw [this, hn', hl]; rfl
  have hRl : R.length = 2 * t.length := by rw [hR, nmP_len]; exact hl
  have hsame := fun j => nmP_same (namesZ t) R3 R3.length j
  rw [← hR] at hsame
  have hgone : ∀ i, i < 2 * t.length → (R.getD i default).gone = goneL (listL b t a) i := fun i hi => by
    rw [(hsame i).2.2.2.2.2, (hf i (by omega)).2.2, hn']
  have hgood : ∀ i, i < 2 * t.length → (R.getD i default).good = goodL (listL b t a) i := fun i hi => by
    rw [(hsame i).2.2.2.2.1, (hf i (by omega)).2.1, hn']
  have hold4 : ∀ i, i < 2 * t.length → (R.getD i default).old = decide (i < t.length) := fun i hi => by
    rw [(hsame i).2.2.2.1, (hf i (by omega)).1]
  have hname : ∀ i, i < 2 * t.length → (R.getD i default).nd.name = (nd (lastL b t a) i).name := fun i hi => by
    rw [← hlast, ndsP_get R (by omega)]
  have hgg : ∀ i, goodL (listL b t a) i = true → goneL (listL b t a) i = false := fun i h1 => by
    unfold goodL at h1
    unfold goneL
    revert h1
    cases hll : (listL b t a).length with
    | zero => intro h1; unfold flgN at h1; cases h1
    | succ m => intro h1; unfold flgN at h1 ⊢; simp only [Bool.and_eq_true, Bool.not_eq_true'] at h1; exact h1.1
  unfold stepF
  rw [if_pos hy, ho.t, ho.g, ho.b]
  congr 1
  · unfold keepZ
    rw [hlast, lastL_len]
    rw [keepTo_congr (lastL b t a) (2 * t.length) fun i hi => by
      show stayP R i = !goneL (listL b t a) i
      unfold stayP; rw [hgone i hi]]
  · unfold sortM namesP
    congr 1
    have := filter_index goodP (fun x : PR => x.nd.name) default R (goodL (listL b t a)) (fun i => (nd (lastL b t a) i).name) (fun j hj => by
      unfold goodP
      rw [hgone j (by omega), hgood j (by omega)]
      cases e : goodL (listL b t a) j
      · simp
      · rw [hgg j e]; rfl) (fun j hj => hname j (by omega)) R.length (Nat.le_refl _)
    rw [List.take_length, hRl] at this
    exact this
  · unfold sortM namesP
    congr 1
    have := filter_index badP (fun x : PR => x.nd.name) default R (fun i => goneL (listL b t a) i && decide (i < t.length)) (fun i => (nd (lastL b t a) i).name) (fun j hj => by
      unfold badP
      rw [hgone j (by omega), hold4 j (by omega)]) (fun j hj => hname j (by omega)) R.length (Nat.le_refl _)
    rw [List.take_length, hRl] at this
    rw [this]
    have e1 : (List.range (2 * t.length)).filter (fun i => goneL (listL b t a) i && decide (i < t.length)) = (List.range t.length).filter (goneL (listL b t a)) := by
      rw [show 2 * t.length = t.length + t.length by omega, List.range_add, List.filter_append]
      have h1 : (List.range t.length).filter (fun i => goneL (listL b t a) i && decide (i < t.length)) = (List.range t.length).filter (goneL (listL b t a)) := by
        refine List.filter_congr fun i hi => ?_
        rw [decide_eq_true (List.mem_range.1 hi), Bool.and_true]
      have h2 : ((List.range t.length).map (t.length + ·)).filter (fun i => goneL (listL b t a) i && decide (i < t.length)) = [] := by
        rw [List.filter_eq_nil_iff]
        intro i hi
        obtain ⟨j, _, rfl⟩ := List.mem_map.1 hi
        simp
      rw [h1, h2, List.append_nil]
    rw [e1]
    refine List.map_congr_left fun i hi => ?_
    have hil := List.mem_range.1 (List.mem_filter.1 hi).1
    show (nd (lastL b t a) i).name = _
    unfold lastL
    rw [(nmL_same (namesZ t) (listL b t a) (skipL (listL b t a) t.length) (2 * t.length) i).2.2 (.inr (by unfold skipL; rw [decide_eq_true hil]; rfl)), hnm i hil]
/-- Step, with the function. -/
theorem pstepf_any {D0 E0 : Dom} (v : Value) (b : Bu) (A : Option Addr) (c : Nat) (t : List Nd) (a : Int) (w : World) (h : RdBu w D0 v b) (ht : RdN w E0 A c t) (hf : fewB b = true) :
    Calls Try.prog 12 #[v, .slice A t.length c, .int .i64 a] w fun e w' => ∃ (A1 AG AB : Option Addr) (c1 cG cB : Nat), e = .returned (.tuple #[.slice A1 (stepF b t a).tree.length c1, .agg #[.slice AG (stepF b t a).good.length cG, .slice AB (stepF b t a).bad.length cB]]) ∧ Below w.heap.size w w' ∧
      RdN w' (fun k => w.heap.size ≤ k) A1 c1 (stepF b t a).tree ∧ RdI w' (fun k => w.heap.size ≤ k) AG cG (stepF b t a).good ∧ RdI w' (fun k => w.heap.size ≤ k) AB cB (stepF b t a).bad := by
  refine (pstep_any v b A c t a w h ht hf).mono ?_
  rintro e w' ⟨T, G, B, A1, AG, AB, c1, cG, cB, rfl, hb, h1, h2, h3, h4⟩
  have hs : (⟨T, G, B⟩ : StepR) = stepF b t a := by
    split at h4
    · rename_i hy
      obtain ⟨R, hR, hO⟩ := h4
      exact rows_step hy hR hO
    · rename_i hy
      obtain ⟨rfl, rfl, rfl⟩ := h4
      unfold stepF
      rw [if_neg hy]
  rw [← hs]
  exact ⟨A1, AG, AB, c1, cG, cB, rfl, hb, h1, h2, h3⟩
end Go.Proofs.Ythhknonaebnooaa
set_option linter.unusedVariables false
set_option linter.unusedSimpArgs false
namespace Go.Proofs.Ythhknonaebnooaa
open Go.RowKit
attribute [local go_sem] cell_alloc_old

/-- Blocks laid one after the other. -/
def allocs (w : World) (os : List Obj) : World := os.foldl World.alloc w
theorem allocs_size : ∀ (os : List Obj) (w : World), (allocs w os).heap.size = w.heap.size + os.length
  | [], w => rfl
  | o :: os, w => by
    show (allocs (w.alloc o) os).heap.size = _
    rw [allocs_size os]; simp; omega
theorem allocs_below : ∀ (os : List Obj) (w : World), Below w.heap.size w (allocs w os)
  | [], w => Below.refl _ _
  | o :: os, w => by
    show Below _ w (allocs (w.alloc o) os)
    exact ((Below.refl _ w).alloc (Nat.le_refl _) o).trans ((allocs_below os (w.alloc o)).mono (by simp))
theorem allocs_heap : ∀ (os : List Obj) (w : World) (k : Nat), k < os.length → (allocs w os).heap[w.heap.size + k]? = os[k]?
  | [], w, k, h => absurd h (Nat.not_lt_zero _)
  | o :: os, w, 0, _ => by
    show (allocs (w.alloc o) os).heap[w.heap.size]? = some o
    rw [(allocs_below os (w.alloc o)).block _ (by simp)]
    exact heap_alloc_new w o
  | o :: os, w, k + 1, h => by
    show (allocs (w.alloc o) os).heap[w.heap.size + (k + 1)]? = os[k]?
    have := allocs_heap os (w.alloc o) k (by simpa using h)
    rw [World.size_alloc] at this
    rw [← this]
    congr 1; omega
/-- A literal row in its block. -/
theorem Rd.lit {w : World} {D : Dom} {g n c : Nat} {cs : Array Value} {T : TypeId} {fr : Nat × Nat} {size : Nat} (h : w.heap[g]? = some (.cells cs T fr)) (hD : D g) (hs : cs.size = n * size) (hn : n ≤ 1000) (hc : n ≤ c) (hc2 : c ≤ 1000) : Rd w D size (some ⟨g, 0, none⟩) n c cs.toList :=
  ⟨⟨by simpa using hs, by omega, hc, by omega⟩, fun _ => ⟨g, 0, rfl, hD, lt_of_block h, fun j u hu => by
    rw [Nat.zero_add]; exact block_cell h (by simpa using hu)⟩⟩
def Ex : Bu := ⟨1, [0], [[[⟨0, false⟩, ⟨1, true⟩]], [[⟨1, true⟩]]]⟩
theorem build_m0 (a : Int) (w : World) : (Instr.build 54 #[(0, .int .i64 a)]).run Try.prog w = .ok (.agg #[.int .i64 a, .bool false]) w := run_build w 54 _ _ (by kernel_rfl)
theorem build_m1 (a : Int) (w : World) : (Instr.build 54 #[(0, .int .i64 a), (1, .bool true)]).run Try.prog w = .ok (.agg #[.int .i64 a, .bool true]) w := run_build w 54 _ _ (by kernel_rfl)
theorem build_bu (a : Int) (A B : Option Addr) (n c m d : Nat) (w : World) : (Instr.build 25 #[(0, .int .i64 a), (1, .slice A n c), (2, .slice B m d)]).run Try.prog w = .ok (.agg #[.int .i64 a, .slice A n c, .slice B m d]) w := run_build w 25 _ _ (by kernel_rfl)
attribute [local go_sem] build_m0 build_m1 build_bu
/-- The example, handed back. -/
def ExSays (w : World) (e : Ending) (w' : World) : Prop := ∃ v, e = .returned v ∧ Below w.heap.size w w' ∧ RdBu w' (fun k => w.heap.size ≤ k) v Ex
set_option maxHeartbeats 2000000 in
theorem example_any (w : World) : Calls Try.prog 32 #[] w (ExSays w) := by
  go_enter Try.func32, Try.ntmps32
  go_wp2_with fail
  refine bodyPost_gen fun W hW => ?_
  obtain ⟨os, hos⟩ : ∃ os : List Obj, os = [.cells #[.int .i64 1, .slice (some ⟨w.heap.size + 1, 0, none⟩) 1 1, .slice (some ⟨w.heap.size + 1 + 1 + 1 + 1 + 1 + 1, 0, none⟩) 2 2] 25, .cells #[.int .i64 0] 3, .cells #[.int .i64 0, .bool false, .int .i64 1, .bool true] 54, .cells #[.slice (some ⟨w.heap.size + 1 + 1, 0, none⟩) 2 2] 52, .cells #[.int .i64 1, .bool true] 54, .cells #[.slice (some ⟨w.heap.size + 1 + 1 + 1 + 1, 0, none⟩) 1 1] 52, .cells #[.slice (some ⟨w.heap.size + 1 + 1 + 1, 0, none⟩) 1 1, .slice (some ⟨w.heap.size + 1 + 1 + 1 + 1 + 1, 0, none⟩) 1 1] 51] := ⟨_, rfl⟩
  have hWa : W = allocs w os := by rw [hos]; exact hW
  have hb : Below w.heap.size w W := by rw [hWa]; exact allocs_below os w
  have h0 : W.heap[w.heap.size]? = some (.cells #[.int .i64 1, .slice (some ⟨w.heap.size + 1, 0, none⟩) 1 1, .slice (some ⟨w.heap.size + 1 + 1 + 1 + 1 + 1 + 1, 0, none⟩) 2 2] 25) := by rw [hWa]; exact (allocs_heap os w 0 (by rw [hos]; simp)).trans (by rw [hos]; rfl)
  have h1 : W.heap[w.heap.size + 1]? = some (.cells #[.int .i64 0] 3) := by rw [hWa]; exact (allocs_heap os w 1 (by rw [hos]; simp)).trans (by rw [hos]; rfl)
  have h2 : W.heap[w.heap.size + 1 + 1]? = some (.cells #[.int .i64 0, .bool false, .int .i64 1, .bool true] 54) := by rw [hWa]; exact (allocs_heap os w 2 (by rw [hos]; simp)).trans (by rw [hos]; rfl)
  have h3 : W.heap[w.heap.size + 1 + 1 + 1]? = some (.cells #[.slice (some ⟨w.heap.size + 1 + 1, 0, none⟩) 2 2] 52) := by rw [hWa]; exact (allocs_heap os w 3 (by rw [hos]; simp)).trans (by rw [hos]; rfl)
  have h4 : W.heap[w.heap.size + 1 + 1 + 1 + 1]? = some (.cells #[.int .i64 1, .bool true] 54) := by rw [hWa]; exact (allocs_heap os w 4 (by rw [hos]; simp)).trans (by rw [hos]; rfl)
  have h5 : W.heap[w.heap.size + 1 + 1 + 1 + 1 + 1]? = some (.cells #[.slice (some ⟨w.heap.size + 1 + 1 + 1 + 1, 0, none⟩) 1 1] 52) := by rw [hWa]; exact (allocs_heap os w 5 (by rw [hos]; simp)).trans (by rw [hos]; rfl)
  have h6 : W.heap[w.heap.size + 1 + 1 + 1 + 1 + 1 + 1]? = some (.cells #[.slice (some ⟨w.heap.size + 1 + 1 + 1, 0, none⟩) 1 1, .slice (some ⟨w.heap.size + 1 + 1 + 1 + 1 + 1, 0, none⟩) 1 1] 51) := by rw [hWa]; exact (allocs_heap os w 6 (by rw [hos]; simp)).trans (by rw [hos]; rfl)
  have r0 := block_cell h0 (i := 0) rfl
  have r1 := block_cell h0 (i := 1) rfl
  have r2 := block_cell h0 (i := 2) rfl
  have D1 : ∀ k, w.heap.size ≤ w.heap.size + k := fun k => by omega
  have m2 : RdV W (fun k => w.heap.size ≤ k) (some ⟨w.heap.size + 1 + 1, 0, none⟩) 2 [⟨0, false⟩, ⟨1, true⟩] := Rd.lit h2 (by omega) rfl (by decide) (by decide) (by decide)
  have m1 : RdV W (fun k => w.heap.size ≤ k) (some ⟨w.heap.size + 1 + 1 + 1 + 1, 0, none⟩) 1 [⟨1, true⟩] := Rd.lit h4 (by omega) rfl (by decide) (by decide) (by decide)
  have q0 : RdVV W (fun k => w.heap.size ≤ k) (some ⟨w.heap.size + 1 + 1 + 1, 0, none⟩) 1 [[⟨0, false⟩, ⟨1, true⟩]] := ⟨_, Rd.lit h3 (by omega) rfl (by decide) (by decide) (by decide), fun i hi => by
    obtain rfl : i = 0 := by simpa using hi
    exact ⟨_, _, rfl, m2⟩⟩
  have q1 : RdVV W (fun k => w.heap.size ≤ k) (some ⟨w.heap.size + 1 + 1 + 1 + 1 + 1, 0, none⟩) 1 [[⟨1, true⟩]] := ⟨_, Rd.lit h5 (by omega) rfl (by decide) (by decide) (by decide), fun i hi => by
    obtain rfl : i = 0 := by simpa using hi
    exact ⟨_, _, rfl, m1⟩⟩
  have qq : RdVVV W (fun k => w.heap.size ≤ k) (some ⟨w.heap.size + 1 + 1 + 1 + 1 + 1 + 1, 0, none⟩) 2 Ex.next := ⟨_, Rd.lit h6 (by omega) rfl (by decide) (by decide) (by decide), fun i hi => by
    have hi2 : i < 2 := hi
    match i, hi2 with
    | 0, _ => exact ⟨_, _, rfl, q0⟩
    | 1, _ => exact ⟨_, _, rfl, q1⟩⟩
  have si : RdI W (fun k => w.heap.size ≤ k) (some ⟨w.heap.size + 1, 0, none⟩) 1 Ex.start := Rd.lit h1 (by omega) rfl (by decide) (by decide) (by decide)
  have hfin : ExSays w (.returned (.agg #[.int .i64 1, .slice (some ⟨w.heap.size + 1, 0, none⟩) 1 1, .slice (some ⟨w.heap.size + 1 + 1 + 1 + 1 + 1 + 1, 0, none⟩) 2 2])) W := ⟨_, rfl, hb, _, _, _, _, rfl, si, qq⟩
  clear hW hos hWa
  exact bodyPost_ret (v := .agg #[.int .i64 1, .slice (some ⟨w.heap.size + 1, 0, none⟩) 1 1, .slice (some ⟨w.heap.size + 1 + 1 + 1 + 1 + 1 + 1, 0, none⟩) 2 2]) (by simp [results, Try.results32, go_sem, r0, r1, r2]) rfl hfin
/-! What the functions tell of it. -/
def exA : List Nd := [⟨1, -1, [0]⟩]
def exB : List Nd := [⟨1, -1, [0, 1]⟩, ⟨2, 0, [1]⟩]
def exC : List Nd := [⟨3, -1, [1]⟩]
theorem sortM_nil : sortM [] = [] := by simp [sortM]
theorem sortM_one (z : Int) : sortM [z] = [z] := by simp [sortM]
theorem ex_few : fewB Ex = true := by decide
theorem ex_buchi : buchiB Ex = true := by decide
theorem ex_start : startT Ex = exA := by unfold startT; rw [ex_buchi]; rfl
theorem ex_tA : treeB Ex exA = true := by decide
theorem ex_tB : treeB Ex exB = true := by decide
theorem ex_tC : treeB Ex exC = true := by decide
theorem ex_t5 : treeB Ex [⟨5, -1, [1]⟩] = false := by decide
theorem ex_t12 : treeB Ex [⟨1, -1, [1]⟩, ⟨2, 0, [1]⟩] = false := by decide
theorem ex_1 : stepF Ex exA 0 = ⟨exB, [], []⟩ := by
  unfold stepF
  rw [if_pos ⟨ex_tA, by decide, by decide⟩]
  have h1 : keepZ (lastL Ex exA 0) (fun i => !goneL (listL Ex exA 0) i) = exB := by decide
  have h2 : (((List.range (2 * exA.length)).filter (goodL (listL Ex exA 0))).map fun i => (nd (lastL Ex exA 0) i).name) = [] := by decide
  have h3 : (((List.range exA.length).filter (goneL (listL Ex exA 0))).map fun i => (nd exA i).name) = [] := by decide
  rw [h1, h2, h3, sortM_nil]
theorem ex_2 : stepF Ex exB 0 = ⟨exB, [2], []⟩ := by
  unfold stepF
  rw [if_pos ⟨ex_tB, by decide, by decide⟩]
  have h1 : keepZ (lastL Ex exB 0) (fun i => !goneL (listL Ex exB 0) i) = exB := by decide
  have h2 : (((List.range (2 * exB.length)).filter (goodL (listL Ex exB 0))).map fun i => (nd (lastL Ex exB 0) i).name) = [2] := by decide
  have h3 : (((List.range exB.length).filter (goneL (listL Ex exB 0))).map fun i => (nd exB i).name) = [] := by decide
  rw [h1, h2, h3, sortM_nil, sortM_one]
theorem ex_3 : stepF Ex exC 0 = ⟨exC, [3], []⟩ := by
  unfold stepF
  rw [if_pos ⟨ex_tC, by decide, by decide⟩]
  have h1 : keepZ (lastL Ex exC 0) (fun i => !goneL (listL Ex exC 0) i) = exC := by decide
  have h2 : (((List.range (2 * exC.length)).filter (goodL (listL Ex exC 0))).map fun i => (nd (lastL Ex exC 0) i).name) = [3] := by decide
  have h3 : (((List.range exC.length).filter (goneL (listL Ex exC 0))).map fun i => (nd exC i).name) = [] := by decide
  rw [h1, h2, h3, sortM_nil, sortM_one]
theorem ex_4 : stepF Ex exB 1 = ⟨[], [], []⟩ := by
  unfold stepF
  rw [if_neg (fun h => absurd h.2.2 (by decide))]
theorem ex_names : namesN Ex = 4 := by unfold namesN; rw [ex_buchi]; rfl
end Go.Proofs.Ythhknonaebnooaa
set_option linter.unusedVariables false
set_option linter.unusedSimpArgs false
namespace Go.Proofs.Ythhknonaebnooaa
open Go.RowKit
attribute [local go_sem] cell_alloc_old

abbrev Any : Dom := fun _ => True
theorem RdN.any {w w' : World} {D : Dom} {A : Option Addr} {c : Nat} {t : List Nd} (h : RdN w D A c t) (hb : Below w.heap.size w w') : RdN w' Any A c t := (h.mono (E := fun k => k < w.heap.size) fun _ _ hl => hl).keep (Keeps.of_below hb fun _ h => h) |>.mono fun _ _ _ => trivial
theorem RdI.any {w w' : World} {D : Dom} {A : Option Addr} {c : Nat} {l : List Int} (h : RdI w D A c l) (hb : Below w.heap.size w w') : RdI w' Any A c l := (h.mono (E := fun k => k < w.heap.size) fun _ _ hl => hl).keep (Keeps.of_below hb fun _ h => h) |>.mono fun _ _ _ => trivial
theorem step_lit {v : Value} {A : Option Addr} {c : Nat} {t T : List Nd} {G B : List Int} {a : Int} {n m p q : Nat} (hs : stepF Ex t a = ⟨T, G, B⟩) (hn : t.length = n) (hm : T.length = m) (hp : G.length = p) (hq : B.length = q) (V : World) {D E : Dom} (h : RdBu V D v Ex) (ht : RdN V E A c t) :
    Calls Try.prog 12 #[v, .slice A n c, .int .i64 a] V fun e w' => ∃ (A1 AG AB : Option Addr) (c1 cG cB : Nat), e = .returned (.tuple #[.slice A1 m c1, .agg #[.slice AG p cG, .slice AB q cB]]) ∧ Below V.heap.size V w' ∧ RdN w' Any A1 c1 T ∧ RdI w' Any AG cG G ∧ RdI w' Any AB cB B := by
  have := pstepf_any v Ex A c t a V h ht ex_few
  rw [hs] at this
  subst hn hm hp hq
  refine this.mono ?_
  rintro e w' ⟨A1, AG, AB, c1, cG, cB, rfl, hb, h1, h2, h3⟩
  exact ⟨A1, AG, AB, c1, cG, cB, rfl, hb, h1.mono fun _ _ _ => trivial, h2.mono fun _ _ _ => trivial, h3.mono fun _ _ _ => trivial⟩
theorem same_lit {A B : Option Addr} {c d : Nat} {s t : List Nd} {n m : Nat} {r : Bool} (hn : s.length = n) (hm : t.length = m) (hr : decide (s = t) = r) (V : World) {D E : Dom} (hs : RdN V D A c s) (ht : RdN V E B d t) :
    Calls Try.prog 16 #[.slice A n c, .slice B m d] V fun e w' => e = .returned (.bool r) ∧ Below V.heap.size V w' := by
  subst hn hm hr
  refine (samet_any A B c d s t V hs ht).mono ?_
  rintro e w' ⟨rfl, hd⟩
  exact ⟨rfl, hd.below _⟩
theorem ints_lit {A B : Option Addr} {c d : Nat} {s t : List Int} {n m : Nat} {r : Bool} (hn : s.length = n) (hm : t.length = m) (hr : decide (s = t) = r) (V : World) {D E : Dom} (hs : RdI V D A c s) (ht : RdI V E B d t) :
    Calls Try.prog 23 #[.slice A n c, .slice B m d] V fun e w' => e = .returned (.bool r) ∧ Below V.heap.size V w' := by
  subst hn hm hr
  refine (ints_any A B c d s t V hs ht).mono ?_
  rintro e w' ⟨rfl, hd⟩
  exact ⟨rfl, hd.below _⟩
theorem valid_lit {v : Value} {A : Option Addr} {c : Nat} {t : List Nd} {n : Nat} {r : Bool} (hn : t.length = n) (hr : treeB Ex t = r) (V : World) {D E : Dom} (h : RdBu V D v Ex) (ht : RdN V E A c t) :
    Calls Try.prog 19 #[v, .slice A n c] V fun e w' => e = .returned (.bool r) ∧ Below V.heap.size V w' := by
  subst hn hr
  exact tvalid_any v Ex A c t V h ht
/-- A node with one state, laid in memory. -/
theorem lit_one (V : World) (nm pr z : Int) : RdN ((V.alloc (.cells #[.int .i64 z] 3)).alloc (.cells #[.int .i64 nm, .int .i64 pr, .slice (some ⟨V.heap.size, 0, none⟩) 1 1] 43)) Any (some ⟨V.heap.size + 1, 0, none⟩) 1 [⟨nm, pr, [z]⟩] := by
  have hW : ((V.alloc (.cells #[.int .i64 z] 3)).alloc (.cells #[.int .i64 nm, .int .i64 pr, .slice (some ⟨V.heap.size, 0, none⟩) 1 1] 43)) = allocs V [.cells #[.int .i64 z] 3, .cells #[.int .i64 nm, .int .i64 pr, .slice (some ⟨V.heap.size, 0, none⟩) 1 1] 43] := rfl
  rw [hW]
  have h0 := allocs_heap [.cells #[.int .i64 z] 3, .cells #[.int .i64 nm, .int .i64 pr, .slice (some ⟨V.heap.size, 0, none⟩) 1 1] 43] V 0 (by simp)
  have h1 := allocs_heap [.cells #[.int .i64 z] 3, .cells #[.int .i64 nm, .int .i64 pr, .slice (some ⟨V.heap.size, 0, none⟩) 1 1] 43] V 1 (by simp)
  have h0' : (allocs V [.cells #[.int .i64 z] 3, .cells #[.int .i64 nm, .int .i64 pr, .slice (some ⟨V.heap.size, 0, none⟩) 1 1] 43]).heap[V.heap.size]? = some (.cells #[.int .i64 z] 3 (0, 0)) := h0
  have h1' : (allocs V [.cells #[.int .i64 z] 3, .cells #[.int .i64 nm, .int .i64 pr, .slice (some ⟨V.heap.size, 0, none⟩) 1 1] 43]).heap[V.heap.size + 1]? = some (.cells #[.int .i64 nm, .int .i64 pr, .slice (some ⟨V.heap.size, 0, none⟩) 1 1] 43 (0, 0)) := h1
  exact RdN.one (x := ⟨nm, pr, [z]⟩) (block_cell h1' rfl) (block_cell h1' rfl) (block_cell h1' rfl) (show RdI _ Any (some ⟨V.heap.size, 0, none⟩) 1 [z] from Rd.lit h0' trivial rfl (by simp) (by simp) (by simp)) trivial
/-- A list of one number. -/
theorem lit_int (V : World) (z : Int) : RdI (V.alloc (.cells #[.int .i64 z] 3)) Any (some ⟨V.heap.size, 0, none⟩) 1 [z] := Rd.lit (heap_alloc_new V _) trivial rfl (by simp) (by simp) (by simp)
/-- Two nodes, laid in memory. -/
theorem two_rd {W : World} {A B : Option Addr} {c d g : Nat} {x y : Nd} (h : W.heap[g]? = some (.cells #[.int .i64 x.name, .int .i64 x.parent, .slice A x.set.length c, .int .i64 y.name, .int .i64 y.parent, .slice B y.set.length d] 43 (0, 0))) (h1 : RdI W Any A c x.set) (h2 : RdI W Any B d y.set) : RdN W Any (some ⟨g, 0, none⟩) 2 [x, y] := by
  refine ⟨[(A, c), (B, d)], rfl, Rd.lit h trivial rfl (by simp) (by simp) (by simp), fun i hi => ?_⟩
  have hi2 : i < 2 := hi
  match i, hi2 with
  | 0, _ => exact h1
  | 1, _ => exact h2
theorem build_nd3 (a p : Int) (A : Option Addr) (n c : Nat) (w : World) : (Instr.build 43 #[(0, .int .i64 a), (1, .int .i64 p), (2, .slice A n c)]).run Try.prog w = .ok (.agg #[.int .i64 a, .int .i64 p, .slice A n c]) w := run_build w 43 _ _ (by kernel_rfl)
theorem build_nd2 (a : Int) (A : Option Addr) (n c : Nat) (w : World) : (Instr.build 43 #[(0, .int .i64 a), (2, .slice A n c)]).run Try.prog w = .ok (.agg #[.int .i64 a, .int .i64 0, .slice A n c]) w := run_build w 43 _ _ (by kernel_rfl)
attribute [local go_sem] build_nd3 build_nd2
theorem calls_gen {P : Program} {f : FuncId} {args : Array Value} {Q : Ending → World → Prop} {w : World} (h : ∀ W, W = w → Calls P f args W Q) : Calls P f args w Q := h w rfl
theorem start_lit {v : Value} (V : World) {D : Dom} (h : RdBu V D v Ex) :
    Calls Try.prog 17 #[v] V fun e w' => ∃ A c, e = .returned (.slice A 1 c) ∧ Below V.heap.size V w' ∧ RdN w' Any A c exA := by
  have := start_any v Ex V h
  rw [ex_start] at this
  refine this.mono ?_
  rintro e w' ⟨A, c, rfl, hb, h1⟩
  exact ⟨A, c, rfl, hb, h1.mono fun _ _ _ => trivial⟩
theorem names_lit {v : Value} (V : World) {D : Dom} (h : RdBu V D v Ex) :
    Calls Try.prog 14 #[v] V fun e w' => e = .returned (.int .i64 4) ∧ Below V.heap.size V w' := by
  have := tnames_any v Ex V h
  rwa [ex_names] at this
/-- The box of what a step tells. -/
structure HasE (W : World) (k : Nat) (A : Option Addr) (n c : Nat) (B : Option Addr) (m d : Nat) (G H : List Int) : Prop where
  blk : W.heap[k]? = some (.cells #[.slice A n c, .slice B m d] 31 (0, 0))
  rg : RdI W Any A c G
  rb : RdI W Any B d H
theorem HasE.below {w w' : World} {k : Nat} {A : Option Addr} {n c : Nat} {B : Option Addr} {m d : Nat} {G H : List Int} (h : HasE w k A n c B m d G H) (hb : Below w.heap.size w w') : HasE w' k A n c B m d G H :=
  ⟨(hb.block _ (lt_of_block h.blk)).trans h.blk, h.rg.any hb, h.rb.any hb⟩
theorem HasE.cells {w : World} {k : Nat} {A : Option Addr} {n c : Nat} {B : Option Addr} {m d : Nat} {G H : List Int} (h : HasE w k A n c B m d G H) : w.cell? ⟨k, 0, none⟩ = some (.slice A n c) ∧ w.cell? ⟨k, 1, none⟩ = some (.slice B m d) ∧ k < w.heap.size :=
  ⟨block_cell h.blk rfl, block_cell h.blk rfl, lt_of_block h.blk⟩
theorem HasE.new {w : World} {A : Option Addr} {n c : Nat} {B : Option Addr} {m d : Nat} {G H : List Int} (hg : RdI w Any A c G) (hh : RdI w Any B d H) : HasE (w.alloc (.cells #[.slice A n c, .slice B m d] 31)) w.heap.size A n c B m d G H :=
  have hb : Below w.heap.size w (w.alloc (.cells #[.slice A n c, .slice B m d] 31)) := by go_grown
  ⟨heap_alloc_new w _, hg.any hb, hh.any hb⟩
set_option maxRecDepth 100000 in
set_option maxHeartbeats 8000000 in
theorem head_any (w : World) : Calls Try.prog 9 #[] w fun e w' => e = .returned (.bool true) ∧ Below w.heap.size w w' := by
  go_enter Try.func9, Try.ntmps9
  go_wp2_with fail
  refine (example_any w).mono ?_
  rintro e w1 ⟨v, rfl, hb1, As, cs, An, cn, rfl, hs, hn⟩
  have HB := hid (HasB.new (show RdBu w1 (fun k => w.heap.size ≤ k) (.agg #[.int .i64 Ex.letters, .slice As Ex.start.length cs, .slice An Ex.next.length cn]) Ex from ⟨As, cs, An, cn, rfl, hs, hn⟩))
  have HBW := hid hb1
  clear hs hn hb1
  go_upto_region 2 with (fail)
  refine wp_gen fun W1 hW1 => ?_
  have hb : Below w1.heap.size w1 W1 := by rw [hW1]; go_grown
  have HB := hid (show HasB W1 w1.heap.size _ Ex by rw [hW1]; exact HB.out)
  have HBW := hid (HBW.out.trans (hb.mono HBW.out.size))
  clear hb hW1
  obtain ⟨o0, o1, o2, ol⟩ := HB.out.cells
  go_wp2_with fail
  refine (start_lit W1 HB.out.rd).mono ?_
  rintro e W2 ⟨Aa, ca, rfl, hb, h1⟩
  have HB := hid (HB.out.below hb)
  have HBW := hid (HBW.out.trans (hb.mono HBW.out.size))
  have HA := hid h1
  clear hb h1 o0 o1 o2 ol
  obtain ⟨o0, o1, o2, ol⟩ := HB.out.cells
  go_wp2_with fail
  refine (step_lit (m := 2) ex_1 rfl rfl rfl rfl W2 HB.out.rd HA.out).mono ?_
  rintro e W3 ⟨AX, GX, BX, aX, gX, bX, rfl, hb, h1, h2, h3⟩
  have HB := hid (HB.out.below hb)
  have HBW := hid (HBW.out.trans (hb.mono HBW.out.size))
  have HA := hid (HA.out.any hb)
  have HEX := hid (HasE.new (n := 0) (m := 0) h2 h3)
  have HTX := hid h1
  clear hb h1 h2 h3 o0 o1 o2 ol
  go_upto_region 4 with (fail)
  refine wp_gen fun W3' hW => ?_
  have hb : Below W3.heap.size W3 W3' := by rw [hW]; go_grown
  have HEX := hid (show HasE W3' W3.heap.size GX 0 gX BX 0 bX [] [] by rw [hW]; exact HEX.out)
  have HB := hid (HB.out.below hb)
  have HBW := hid (HBW.out.trans (hb.mono HBW.out.size))
  have HA := hid (HA.out.any hb)
  have HTX := hid (HTX.out.any hb)
  clear hb hW
  obtain ⟨o0, o1, o2, ol⟩ := HB.out.cells
  go_wp2_with fail
  refine (step_lit (m := 2) ex_2 rfl rfl rfl rfl W3' HB.out.rd HTX.out).mono ?_
  rintro e W4 ⟨AY, GY, BY, aY, gY, bY, rfl, hb, h1, h2, h3⟩
  have HB := hid (HB.out.below hb)
  have HBW := hid (HBW.out.trans (hb.mono HBW.out.size))
  have HA := hid (HA.out.any hb)
  have HEX := hid (HEX.out.below hb)
  have HTX := hid (HTX.out.any hb)
  have HEY := hid (HasE.new (n := 1) (m := 0) h2 h3)
  have HTY := hid h1
  clear hb h1 h2 h3 o0 o1 o2 ol
  go_upto_region 5 with (fail)
  refine wp_gen fun W4' hW => ?_
  have hb : Below W4.heap.size W4 W4' := by rw [hW]; go_grown
  have HEY := hid (show HasE W4' W4.heap.size GY 1 gY BY 0 bY [2] [] by rw [hW]; exact HEY.out)
  have HB := hid (HB.out.below hb)
  have HBW := hid (HBW.out.trans (hb.mono HBW.out.size))
  have HA := hid (HA.out.any hb)
  have HEX := hid (HEX.out.below hb)
  have HTX := hid (HTX.out.any hb)
  have HTY := hid (HTY.out.any hb)
  clear hb hW
  obtain ⟨o0, o1, o2, ol⟩ := HB.out.cells
  go_wp2_with fail
  refine calls_gen fun W5 hW => ?_
  have hb : Below W4'.heap.size W4' W5 := by rw [hW]; go_grown
  have HC := hid (show RdN W5 Any (some ⟨W4'.heap.size + 1, 0, none⟩) 1 exC by rw [hW]; exact lit_one W4' 3 (-1) 1)
  have HB := hid (HB.out.below hb)
  have HBW := hid (HBW.out.trans (hb.mono HBW.out.size))
  have HA := hid (HA.out.any hb)
  have HEX := hid (HEX.out.below hb)
  have HTX := hid (HTX.out.any hb)
  have HEY := hid (HEY.out.below hb)
  have HTY := hid (HTY.out.any hb)
  clear hb hW o0 o1 o2 ol
  refine (step_lit (m := 1) ex_3 rfl rfl rfl rfl W5 HB.out.rd HC.out).mono ?_
  rintro e W6 ⟨AZ, GZ, BZ, aZ, gZ, bZ, rfl, hb, h1, h2, h3⟩
  have HB := hid (HB.out.below hb)
  have HBW := hid (HBW.out.trans (hb.mono HBW.out.size))
  have HA := hid (HA.out.any hb)
  have HEX := hid (HEX.out.below hb)
  have HTX := hid (HTX.out.any hb)
  have HEY := hid (HEY.out.below hb)
  have HTY := hid (HTY.out.any hb)
  have HEZ := hid (HasE.new (n := 1) (m := 0) h2 h3)
  have HTZ := hid h1
  clear hb h1 h2 h3
  go_upto_region 6 with (fail)
  refine wp_gen fun W6' hW => ?_
  have hb : Below W6.heap.size W6 W6' := by rw [hW]; go_grown
  have HEZ := hid (show HasE W6' W6.heap.size GZ 1 gZ BZ 0 bZ [3] [] by rw [hW]; exact HEZ.out)
  have HB := hid (HB.out.below hb)
  have HBW := hid (HBW.out.trans (hb.mono HBW.out.size))
  have HA := hid (HA.out.any hb)
  have HEX := hid (HEX.out.below hb)
  have HTX := hid (HTX.out.any hb)
  have HEY := hid (HEY.out.below hb)
  have HTY := hid (HTY.out.any hb)
  have HTZ := hid (HTZ.out.any hb)
  clear hb hW
  go_upto_region 7 with (fail)
  refine wp_gen fun W7 hW => ?_
  have hb : Below W6'.heap.size W6' W7 := by rw [hW]; go_grown
  have hWa : W7 = allocs W6' [.cells #[.int .i64 0, .int .i64 1] 3, .cells #[.int .i64 1] 3, .cells #[.int .i64 1, .int .i64 (-1), .slice (some ⟨W6'.heap.size, 0, none⟩) 2 2, .int .i64 2, .int .i64 0, .slice (some ⟨W6'.heap.size + 1, 0, none⟩) 1 1] 43] := hW
  have b0 : W7.heap[W6'.heap.size]? = some (.cells #[.int .i64 0, .int .i64 1] 3 (0, 0)) := by rw [hWa]; exact allocs_heap [.cells #[.int .i64 0, .int .i64 1] 3, .cells #[.int .i64 1] 3, .cells #[.int .i64 1, .int .i64 (-1), .slice (some ⟨W6'.heap.size, 0, none⟩) 2 2, .int .i64 2, .int .i64 0, .slice (some ⟨W6'.heap.size + 1, 0, none⟩) 1 1] 43] W6' 0 (by simp)
  have b1 : W7.heap[W6'.heap.size + 1]? = some (.cells #[.int .i64 1] 3 (0, 0)) := by rw [hWa]; exact allocs_heap [.cells #[.int .i64 0, .int .i64 1] 3, .cells #[.int .i64 1] 3, .cells #[.int .i64 1, .int .i64 (-1), .slice (some ⟨W6'.heap.size, 0, none⟩) 2 2, .int .i64 2, .int .i64 0, .slice (some ⟨W6'.heap.size + 1, 0, none⟩) 1 1] 43] W6' 1 (by simp)
  have b2 : W7.heap[W6'.heap.size + 1 + 1]? = some (.cells #[.int .i64 1, .int .i64 (-1), .slice (some ⟨W6'.heap.size, 0, none⟩) 2 2, .int .i64 2, .int .i64 0, .slice (some ⟨W6'.heap.size + 1, 0, none⟩) 1 1] 43 (0, 0)) := by rw [hWa]; exact allocs_heap [.cells #[.int .i64 0, .int .i64 1] 3, .cells #[.int .i64 1] 3, .cells #[.int .i64 1, .int .i64 (-1), .slice (some ⟨W6'.heap.size, 0, none⟩) 2 2, .int .i64 2, .int .i64 0, .slice (some ⟨W6'.heap.size + 1, 0, none⟩) 1 1] 43] W6' 2 (by simp)
  have HWA := hid (show RdN W7 Any (some ⟨W6'.heap.size + 1 + 1, 0, none⟩) 2 exB from two_rd (x := ⟨1, -1, [0, 1]⟩) (y := ⟨2, 0, [1]⟩) b2 (Rd.lit b0 trivial rfl (by simp) (by simp) (by simp)) (Rd.lit b1 trivial rfl (by simp) (by simp) (by simp)))
  have HB := hid (HB.out.below hb)
  have HBW := hid (HBW.out.trans (hb.mono HBW.out.size))
  have HA := hid (HA.out.any hb)
  have HEX := hid (HEX.out.below hb)
  have HTX := hid (HTX.out.any hb)
  have HEY := hid (HEY.out.below hb)
  have HTY := hid (HTY.out.any hb)
  have HTZ := hid (HTZ.out.any hb)
  have HEZ := hid (HEZ.out.below hb)
  clear hb hW hWa b0 b1 b2
  go_wp2_with fail
  refine calls_gen fun W8 hW => ?_
  have hb : Below W7.heap.size W7 W8 := by rw [hW]; go_grown
  have HC := hid (show RdN W8 Any (some ⟨W7.heap.size + 1, 0, none⟩) 1 exA by rw [hW]; exact lit_one W7 1 (-1) 0)
  have HB := hid (HB.out.below hb)
  have HBW := hid (HBW.out.trans (hb.mono HBW.out.size))
  have HA := hid (HA.out.any hb)
  have HEX := hid (HEX.out.below hb)
  have HTX := hid (HTX.out.any hb)
  have HEY := hid (HEY.out.below hb)
  have HTY := hid (HTY.out.any hb)
  have HTZ := hid (HTZ.out.any hb)
  have HEZ := hid (HEZ.out.below hb)
  have HWA := hid (HWA.out.any hb)
  clear hb hW
  refine (same_lit (r := true) rfl rfl rfl W8 HA.out HC.out).mono ?_
  rintro e W9 ⟨rfl, hb⟩
  have HB := hid (HB.out.below hb)
  have HBW := hid (HBW.out.trans (hb.mono HBW.out.size))
  have HA := hid (HA.out.any hb)
  have HEX := hid (HEX.out.below hb)
  have HTX := hid (HTX.out.any hb)
  have HEY := hid (HEY.out.below hb)
  have HTY := hid (HTY.out.any hb)
  have HTZ := hid (HTZ.out.any hb)
  have HEZ := hid (HEZ.out.below hb)
  have HWA := hid (HWA.out.any hb)
  clear hb
  go_wp2_with fail
  refine (same_lit (r := true) rfl rfl rfl W9 HTX.out HWA.out).mono ?_
  rintro e U1 ⟨rfl, hb⟩
  have HB := hid (HB.out.below hb)
  have HBW := hid (HBW.out.trans (hb.mono HBW.out.size))
  have HA := hid (HA.out.any hb)
  have HEX := hid (HEX.out.below hb)
  have HTX := hid (HTX.out.any hb)
  have HEY := hid (HEY.out.below hb)
  have HTY := hid (HTY.out.any hb)
  have HTZ := hid (HTZ.out.any hb)
  have HEZ := hid (HEZ.out.below hb)
  have HWA := hid (HWA.out.any hb)
  clear hb
  obtain ⟨x0, x1, xl⟩ := HEX.out.cells
  obtain ⟨y0, y1, yl⟩ := HEY.out.cells
  go_wp2_with fail
  clear x0 x1 xl y0 y1 yl
  refine (same_lit (r := true) rfl rfl rfl U1 HTY.out HWA.out).mono ?_
  rintro e U2 ⟨rfl, hb⟩
  have HB := hid (HB.out.below hb)
  have HBW := hid (HBW.out.trans (hb.mono HBW.out.size))
  have HA := hid (HA.out.any hb)
  have HEX := hid (HEX.out.below hb)
  have HTX := hid (HTX.out.any hb)
  have HEY := hid (HEY.out.below hb)
  have HTY := hid (HTY.out.any hb)
  have HTZ := hid (HTZ.out.any hb)
  have HEZ := hid (HEZ.out.below hb)
  have HWA := hid (HWA.out.any hb)
  clear hb
  obtain ⟨x0, x1, xl⟩ := HEX.out.cells
  obtain ⟨y0, y1, yl⟩ := HEY.out.cells
  go_wp2_with fail
  clear x0 x1 xl y0 y1 yl
  refine calls_gen fun U3 hW => ?_
  have hb : Below U2.heap.size U2 U3 := by rw [hW]; go_grown
  have HC := hid (show RdI U3 Any (some ⟨U2.heap.size, 0, none⟩) 1 [2] by rw [hW]; exact lit_int U2 2)
  have HB := hid (HB.out.below hb)
  have HBW := hid (HBW.out.trans (hb.mono HBW.out.size))
  have HA := hid (HA.out.any hb)
  have HEX := hid (HEX.out.below hb)
  have HTX := hid (HTX.out.any hb)
  have HEY := hid (HEY.out.below hb)
  have HTY := hid (HTY.out.any hb)
  have HTZ := hid (HTZ.out.any hb)
  have HEZ := hid (HEZ.out.below hb)
  have HWA := hid (HWA.out.any hb)
  clear hb hW
  refine (ints_lit (r := true) rfl rfl rfl U3 HEY.out.rg HC.out).mono ?_
  rintro e U4 ⟨rfl, hb⟩
  have HB := hid (HB.out.below hb)
  have HBW := hid (HBW.out.trans (hb.mono HBW.out.size))
  have HA := hid (HA.out.any hb)
  have HEX := hid (HEX.out.below hb)
  have HTX := hid (HTX.out.any hb)
  have HEY := hid (HEY.out.below hb)
  have HTY := hid (HTY.out.any hb)
  have HTZ := hid (HTZ.out.any hb)
  have HEZ := hid (HEZ.out.below hb)
  have HWA := hid (HWA.out.any hb)
  clear hb
  obtain ⟨x0, x1, xl⟩ := HEX.out.cells
  obtain ⟨y0, y1, yl⟩ := HEY.out.cells
  go_upto_region 8 with (fail)
  clear x0 x1 xl y0 y1 yl
  go_wp2_with fail
  refine calls_gen fun U5 hW => ?_
  have hb : Below U4.heap.size U4 U5 := by rw [hW]; go_grown
  have HC := hid (show RdN U5 Any (some ⟨U4.heap.size + 1, 0, none⟩) 1 exC by rw [hW]; exact lit_one U4 3 (-1) 1)
  have HB := hid (HB.out.below hb)
  have HBW := hid (HBW.out.trans (hb.mono HBW.out.size))
  have HA := hid (HA.out.any hb)
  have HEX := hid (HEX.out.below hb)
  have HTX := hid (HTX.out.any hb)
  have HEY := hid (HEY.out.below hb)
  have HTY := hid (HTY.out.any hb)
  have HTZ := hid (HTZ.out.any hb)
  have HEZ := hid (HEZ.out.below hb)
  have HWA := hid (HWA.out.any hb)
  clear hb hW
  refine (same_lit (r := true) rfl rfl rfl U5 HTZ.out HC.out).mono ?_
  rintro e U6 ⟨rfl, hb⟩
  have HB := hid (HB.out.below hb)
  have HBW := hid (HBW.out.trans (hb.mono HBW.out.size))
  have HA := hid (HA.out.any hb)
  have HEX := hid (HEX.out.below hb)
  have HTX := hid (HTX.out.any hb)
  have HEY := hid (HEY.out.below hb)
  have HTY := hid (HTY.out.any hb)
  have HTZ := hid (HTZ.out.any hb)
  have HEZ := hid (HEZ.out.below hb)
  have HWA := hid (HWA.out.any hb)
  clear hb
  obtain ⟨z0, z1, zl⟩ := HEZ.out.cells
  go_wp2_with fail
  clear z0 z1 zl
  refine calls_gen fun U7 hW => ?_
  have hb : Below U6.heap.size U6 U7 := by rw [hW]; go_grown
  have HC := hid (show RdI U7 Any (some ⟨U6.heap.size, 0, none⟩) 1 [3] by rw [hW]; exact lit_int U6 3)
  have HB := hid (HB.out.below hb)
  have HBW := hid (HBW.out.trans (hb.mono HBW.out.size))
  have HA := hid (HA.out.any hb)
  have HEX := hid (HEX.out.below hb)
  have HTX := hid (HTX.out.any hb)
  have HEY := hid (HEY.out.below hb)
  have HTY := hid (HTY.out.any hb)
  have HTZ := hid (HTZ.out.any hb)
  have HEZ := hid (HEZ.out.below hb)
  have HWA := hid (HWA.out.any hb)
  clear hb hW
  refine (ints_lit (r := true) rfl rfl rfl U7 HEZ.out.rg HC.out).mono ?_
  rintro e U8 ⟨rfl, hb⟩
  have HB := hid (HB.out.below hb)
  have HBW := hid (HBW.out.trans (hb.mono HBW.out.size))
  have HA := hid (HA.out.any hb)
  have HEX := hid (HEX.out.below hb)
  have HTX := hid (HTX.out.any hb)
  have HEY := hid (HEY.out.below hb)
  have HTY := hid (HTY.out.any hb)
  have HTZ := hid (HTZ.out.any hb)
  have HEZ := hid (HEZ.out.below hb)
  have HWA := hid (HWA.out.any hb)
  clear hb
  obtain ⟨o0, o1, o2, ol⟩ := HB.out.cells
  go_wp2_with fail
  clear o0 o1 o2 ol
  refine (names_lit U8 HB.out.rd).mono ?_
  rintro e U9 ⟨rfl, hb⟩
  have HB := hid (HB.out.below hb)
  have HBW := hid (HBW.out.trans (hb.mono HBW.out.size))
  have HA := hid (HA.out.any hb)
  have HEX := hid (HEX.out.below hb)
  have HTX := hid (HTX.out.any hb)
  have HEY := hid (HEY.out.below hb)
  have HTY := hid (HTY.out.any hb)
  have HTZ := hid (HTZ.out.any hb)
  have HEZ := hid (HEZ.out.below hb)
  have HWA := hid (HWA.out.any hb)
  clear hb
  obtain ⟨o0, o1, o2, ol⟩ := HB.out.cells
  go_wp2_with fail
  clear o0 o1 o2 ol
  refine (valid_lit rfl ex_tB U9 HB.out.rd HTX.out).mono ?_
  rintro e T1 ⟨rfl, hb⟩
  have HB := hid (HB.out.below hb)
  have HBW := hid (HBW.out.trans (hb.mono HBW.out.size))
  have HA := hid (HA.out.any hb)
  have HEX := hid (HEX.out.below hb)
  have HTX := hid (HTX.out.any hb)
  have HEY := hid (HEY.out.below hb)
  have HTY := hid (HTY.out.any hb)
  have HTZ := hid (HTZ.out.any hb)
  have HEZ := hid (HEZ.out.below hb)
  have HWA := hid (HWA.out.any hb)
  clear hb
  obtain ⟨o0, o1, o2, ol⟩ := HB.out.cells
  go_wp2_with fail
  clear o0 o1 o2 ol
  refine calls_gen fun T2 hW => ?_
  have hb : Below T1.heap.size T1 T2 := by rw [hW]; go_grown
  have HC := hid (show RdN T2 Any (some ⟨T1.heap.size + 1, 0, none⟩) 1 [⟨5, -1, [1]⟩] by rw [hW]; exact lit_one T1 5 (-1) 1)
  have HB := hid (HB.out.below hb)
  have HBW := hid (HBW.out.trans (hb.mono HBW.out.size))
  have HA := hid (HA.out.any hb)
  have HEX := hid (HEX.out.below hb)
  have HTX := hid (HTX.out.any hb)
  have HEY := hid (HEY.out.below hb)
  have HTY := hid (HTY.out.any hb)
  have HTZ := hid (HTZ.out.any hb)
  have HEZ := hid (HEZ.out.below hb)
  have HWA := hid (HWA.out.any hb)
  clear hb hW
  refine (valid_lit rfl ex_t5 T2 HB.out.rd HC.out).mono ?_
  rintro e T3 ⟨rfl, hb⟩
  have HB := hid (HB.out.below hb)
  have HBW := hid (HBW.out.trans (hb.mono HBW.out.size))
  have HA := hid (HA.out.any hb)
  have HEX := hid (HEX.out.below hb)
  have HTX := hid (HTX.out.any hb)
  have HEY := hid (HEY.out.below hb)
  have HTY := hid (HTY.out.any hb)
  have HTZ := hid (HTZ.out.any hb)
  have HEZ := hid (HEZ.out.below hb)
  have HWA := hid (HWA.out.any hb)
  clear hb
  obtain ⟨o0, o1, o2, ol⟩ := HB.out.cells
  go_wp2_with fail
  clear o0 o1 o2 ol
  refine calls_gen fun T4 hW => ?_
  have hb : Below T3.heap.size T3 T4 := by rw [hW]; go_grown
  have hWa : T4 = allocs T3 [.cells #[.int .i64 1] 3, .cells #[.int .i64 1] 3, .cells #[.int .i64 1, .int .i64 (-1), .slice (some ⟨T3.heap.size, 0, none⟩) 1 1, .int .i64 2, .int .i64 0, .slice (some ⟨T3.heap.size + 1, 0, none⟩) 1 1] 43] := hW
  have b0 : T4.heap[T3.heap.size]? = some (.cells #[.int .i64 1] 3 (0, 0)) := by rw [hWa]; exact allocs_heap [.cells #[.int .i64 1] 3, .cells #[.int .i64 1] 3, .cells #[.int .i64 1, .int .i64 (-1), .slice (some ⟨T3.heap.size, 0, none⟩) 1 1, .int .i64 2, .int .i64 0, .slice (some ⟨T3.heap.size + 1, 0, none⟩) 1 1] 43] T3 0 (by simp)
  have b1 : T4.heap[T3.heap.size + 1]? = some (.cells #[.int .i64 1] 3 (0, 0)) := by rw [hWa]; exact allocs_heap [.cells #[.int .i64 1] 3, .cells #[.int .i64 1] 3, .cells #[.int .i64 1, .int .i64 (-1), .slice (some ⟨T3.heap.size, 0, none⟩) 1 1, .int .i64 2, .int .i64 0, .slice (some ⟨T3.heap.size + 1, 0, none⟩) 1 1] 43] T3 1 (by simp)
  have b2 : T4.heap[T3.heap.size + 1 + 1]? = some (.cells #[.int .i64 1, .int .i64 (-1), .slice (some ⟨T3.heap.size, 0, none⟩) 1 1, .int .i64 2, .int .i64 0, .slice (some ⟨T3.heap.size + 1, 0, none⟩) 1 1] 43 (0, 0)) := by rw [hWa]; exact allocs_heap [.cells #[.int .i64 1] 3, .cells #[.int .i64 1] 3, .cells #[.int .i64 1, .int .i64 (-1), .slice (some ⟨T3.heap.size, 0, none⟩) 1 1, .int .i64 2, .int .i64 0, .slice (some ⟨T3.heap.size + 1, 0, none⟩) 1 1] 43] T3 2 (by simp)
  have HC := hid (show RdN T4 Any (some ⟨T3.heap.size + 1 + 1, 0, none⟩) 2 [⟨1, -1, [1]⟩, ⟨2, 0, [1]⟩] from two_rd (x := ⟨1, -1, [1]⟩) (y := ⟨2, 0, [1]⟩) b2 (Rd.lit b0 trivial rfl (by simp) (by simp) (by simp)) (Rd.lit b1 trivial rfl (by simp) (by simp) (by simp)))
  clear b0 b1 b2 hWa
  have HB := hid (HB.out.below hb)
  have HBW := hid (HBW.out.trans (hb.mono HBW.out.size))
  have HA := hid (HA.out.any hb)
  have HEX := hid (HEX.out.below hb)
  have HTX := hid (HTX.out.any hb)
  have HEY := hid (HEY.out.below hb)
  have HTY := hid (HTY.out.any hb)
  have HTZ := hid (HTZ.out.any hb)
  have HEZ := hid (HEZ.out.below hb)
  have HWA := hid (HWA.out.any hb)
  clear hb hW
  refine (valid_lit rfl ex_t12 T4 HB.out.rd HC.out).mono ?_
  rintro e T5 ⟨rfl, hb⟩
  have HB := hid (HB.out.below hb)
  have HBW := hid (HBW.out.trans (hb.mono HBW.out.size))
  have HA := hid (HA.out.any hb)
  have HEX := hid (HEX.out.below hb)
  have HTX := hid (HTX.out.any hb)
  have HEY := hid (HEY.out.below hb)
  have HTY := hid (HTY.out.any hb)
  have HTZ := hid (HTZ.out.any hb)
  have HEZ := hid (HEZ.out.below hb)
  have HWA := hid (HWA.out.any hb)
  clear hb
  go_upto_region 9 with (fail)
  obtain ⟨o0, o1, o2, ol⟩ := HB.out.cells
  go_wp2_with fail
  refine (step_lit (m := 0) ex_4 rfl rfl rfl rfl T5 HB.out.rd HTX.out).mono ?_
  rintro e T6 ⟨AN, GN, BN, aN, gN, bN, rfl, hb, h1, h2, h3⟩
  have HBW := hid (HBW.out.trans (hb.mono HBW.out.size))
  clear hb h1 h2 h3 o0 o1 o2 ol
  go_wp2_with fail
  refine bodyPost_gen fun W hW => ?_
  have hb : Below T6.heap.size T6 W := by rw [hW]; go_grown
  have HBW := hid (HBW.out.trans (hb.mono HBW.out.size))
  clear hb hW
  exact bodyPost_ret (v := .bool true) (by simp [results, Try.results9, go_sem]) rfl ⟨rfl, HBW.out⟩
end Go.Proofs.Ythhknonaebnooaa
set_option linter.unusedVariables false
set_option linter.unusedSimpArgs false
namespace Go.Proofs.Ythhknonaebnooaa
open Go.RowKit
attribute [local go_sem] cell_alloc_old

/-- Is the automaton small and as it should be, and the word one of at most twelve of its letters? -/
def letB (b : Bu) (l : List Int) (j : Nat) : Bool := decide (0 ≤ l.getD j 0) && decide (l.getD j 0 < b.letters)
def rightB (b : Bu) (l : List Int) : Bool := fewB b && buchiB b && decide (l.length ≤ 12) && allN l.length (letB b l)
set_option maxRecDepth 100000 in
set_option maxHeartbeats 2000000 in
theorem right_any {D E : Dom} (v : Value) (b : Bu) (A : Option Addr) (c : Nat) (l : List Int) (w : World) (h : RdBu w D v b) (hl : RdI w E A c l) :
    Calls Try.prog 22 #[v, .slice A l.length c, .int .i64 12] w fun e w' => e = .returned (.bool (rightB b l)) ∧ Below w.heap.size w w' := by
  have HV := hid h.old
  have HL := hid hl.old
  have hll := hl.len.1
  obtain ⟨As, cs, An, cn, rfl, hs, hn⟩ := h
  clear hs hn hl
  go_enter Try.func22, Try.ntmps22
  go_upto_region 1 with (fail)
  refine wp_gen fun W hW => ?_
  have hB : HasB W w.heap.size #[.int .i64 b.letters, .slice As b.start.length cs, .slice An b.next.length cn] b := by rw [hW]; exact HasB.new HV.out
  have hb : Below w.heap.size w W := by rw [hW]; go_grown
  have HB := hid hB
  have HBW := hid hb
  have HL := hid (HL.out.keep (Keeps.of_below (hb.mono (Nat.le_refl _)) fun _ h => h))
  clear hB hb hW
  obtain ⟨o0, o1, o2, ol⟩ := HB.out.cells
  go_wp2_with fail
  refine (few_any _ b W HB.out.rd).mono ?_
  rintro e W1 ⟨rfl, hb⟩
  have HB := hid (HB.out.below hb)
  have HL := hid (HL.out.old.keep (Keeps.of_below hb fun _ h => h))
  have HBW := hid (HBW.out.trans (hb.mono HBW.out.size))
  clear hb o0 o1 o2 ol
  obtain ⟨o0, o1, o2, ol⟩ := HB.out.cells
  by_cases hf : fewB b = true
  · go_wp2_with fail
    refine (rbvalid_any _ b W1 HB.out.rd).mono ?_
    rintro e W2 ⟨rfl, hb⟩
    have HB := hid (HB.out.below hb)
    have HL := hid (HL.out.old.keep (Keeps.of_below hb fun _ h => h))
    have HBW := hid (HBW.out.trans (hb.mono HBW.out.size))
    clear hb o0 o1 o2 ol
    obtain ⟨o0, o1, o2, ol⟩ := HB.out.cells
    by_cases hv : buchiB b = true
    · by_cases hm : (12 : Int) < (l.length : Int)
      · have hr : rightB b l = false := by unfold rightB; rw [decide_eq_false (show ¬ l.length ≤ 12 by omega)]; simp
        have HR := hid hr
        clear hr
        go_wp2_with fail
        rw [HR.out]
        exact bodyPost_ret (v := .bool false) (by simp [results, Try.results22, go_sem]) rfl ⟨rfl, HBW.out⟩
      · have hr : rightB b l = allN l.length (letB b l) := by unfold rightB; rw [hf, hv, decide_eq_true (show l.length ≤ 12 by omega)]; simp
        have HR := hid hr
        clear hr
        go_wp2_with fail
        clear o0 o1 o2 ol
        go_loopw [7] (fun t wr => ∃ k : Nat, k ≤ l.length ∧ t = .int .i64 k ∧ SoFar k (letB b l) ∧ Drawn W2 wr) (fun t _ => l.length - (intOf t).toNat)
        case atStart => exact ⟨0, Nat.zero_le _, rfl, SoFar.zero _, Drawn.refl _⟩
        case round =>
          obtain ⟨k, hk, rfl, hb, hd⟩ := hrel
          have HS := hid hb
          clear hb
          by_cases hlt : k < l.length
          · have hki : (k : Int) < l.length := by omega
            obtain ⟨g, o, x, rfl, _, hgl, HX, hc⟩ := (HL.out.keep (hd.keeps)).get hlt
            obtain ⟨o0, o1, o2, ol⟩ := (HB.out.below (hd.below _)).cells
            by_cases hx0 : x < 0
            · have hr : allN l.length (letB b l) = false := allN_false hlt (by unfold letB; rw [HX.out]; simp; omega)
              have HR := hid (HR.out.trans hr)
              clear hr
              go_wp2_with fail
              go_quiet (fail)
              go_wp2_with fail
              rw [HR.out]
              exact bodyPost_ret (v := .bool false) (by simp [results, Try.results22, go_sem]) rfl ⟨rfl, HBW.out.trans (((hd.drewN _).below _).mono HBW.out.size)⟩
            · by_cases hx1 : b.letters ≤ x
              · have hr : allN l.length (letB b l) = false := allN_false hlt (by unfold letB; rw [HX.out]; simp; omega)
                have HR := hid (HR.out.trans hr)
                clear hr
                go_wp2_with fail
                go_quiet (fail)
                go_wp2_with fail
                rw [HR.out]
                exact bodyPost_ret (v := .bool false) (by simp [results, Try.results22, go_sem]) rfl ⟨rfl, HBW.out.trans (((hd.drewN _).below _).mono HBW.out.size)⟩
              · have hr : letB b l k = true := by unfold letB; rw [HX.out]; simp; omega
                have HK := hid hr
                clear hr
                go_wp2_with fail
                go_quiet (fail)
                go_wp2_with fail
                go_roundw
                case rel => exact ⟨k + 1, by omega, by go_num, HS.out.succ HK.out, hd.drewN _⟩
                case measure => simp [intOf]; omega
          · have HR := hid (HR.out.trans (HS.out.all (n := l.length) (by omega)))
            go_wp2_with fail
            rw [HR.out]
            exact bodyPost_ret (v := .bool true) (by simp [results, Try.results22, go_sem]) rfl ⟨rfl, HBW.out.trans ((hd.below _).mono HBW.out.size)⟩
    · have hv : buchiB b = false := by simpa using hv
      have hr : rightB b l = false := by unfold rightB; rw [hv]; simp
      have HR := hid hr
      clear hr
      go_wp2_with fail
      rw [HR.out]
      exact bodyPost_ret (v := .bool false) (by simp [results, Try.results22, go_sem]) rfl ⟨rfl, HBW.out⟩
  · have hf : fewB b = false := by simpa using hf
    have hr : rightB b l = false := by unfold rightB; rw [hf]; simp
    have HR := hid hr
    clear hr
    go_wp2_with fail
    rw [HR.out]
    exact bodyPost_ret (v := .bool false) (by simp [results, Try.results22, go_sem]) rfl ⟨rfl, HBW.out⟩
end Go.Proofs.Ythhknonaebnooaa
