/-
  New names: plain; walk of the program: name.
  What a well-formed tree is, in the parts in which it is looked at; families of sets in memory.
  What valid keeps while it runs.
-/
import Derived.WalkMore
import Derived.Deep.LoopGhost
import Derived.Test.YthhknonaebnooaaZ05
set_option linter.unusedVariables false
set_option linter.unusedSimpArgs false
namespace Go.Proofs.Ythhknonaebnooaa
open Go.RowKit
attribute [local go_sem] cell_alloc_old

/-- l is the least number from n on that is not used. -/
structure IsFree (used : List Int) (n l : Int) : Prop where
  le : n ≤ l
  no : l ∉ used
  all : ∀ j, n ≤ j → j < l → j ∈ used
theorem IsFree.uniq {used : List Int} {n l l' : Int} (h : IsFree used n l) (k : IsFree used n l') : l = l' := by
  rcases Int.lt_trichotomy l l' with e | e | e
  · exact absurd (k.all l h.le e) h.no
  · exact e
  · exact absurd (h.all l' k.le e) k.no
theorem freeN_free : ∀ (m : Nat) (used : List Int) (n : Int), used.length ≤ m → IsFree used n (freeN used m n)
  | 0, used, n, h => by
    have : used = [] := List.eq_nil_of_length_eq_zero (by omega)
    subst this
    exact ⟨Int.le_refl _, by simp, fun j h1 h2 => by unfold freeN at h2; omega⟩
  | m + 1, used, n, h => by
    unfold freeN
    by_cases hn : inB used n = true
    · rw [if_pos hn]
      have hmem := inB_iff.1 hn
      have hlt : (used.filter fun z => decide (z ≠ n)).length ≤ m := by
        have h1 := filter_less (fun _ : Int => true) (fun z => decide (z ≠ n)) used (fun _ _ _ => rfl) ⟨n, hmem, rfl, by simp⟩
        rw [show used.filter (fun _ => true) = used by simp] at h1
        omega
      have hcong : ∀ (m : Nat) (k : Int), n < k → freeN used m k = freeN (used.filter fun z => decide (z ≠ n)) m k := fun m => by
        induction m with
        | zero => intro k _; rfl
        | succ m ih =>
          intro k hk
          unfold freeN
          have e : inB used k = inB (used.filter fun z => decide (z ≠ n)) k := by
            rw [Bool.eq_iff_iff, inB_iff, inB_iff, List.mem_filter]
            simp; intro _; omega
          rw [e, ih (k + 1) (by omega)]
      rw [hcong m (n + 1) (by omega)]
      have := freeN_free m _ (n + 1) hlt
      generalize freeN (used.filter fun z => decide (z ≠ n)) m (n + 1) = l at this
      have hle := this.le
      refine ⟨by omega, fun hm => this.no (List.mem_filter.2 ⟨hm, decide_eq_true (by omega)⟩), fun j h1 h2 => ?_⟩
      by_cases e : j = n
      · rw [e]; exact hmem
      · exact (List.mem_filter.1 (this.all j (by omega) h2)).1
    · rw [if_neg hn]
      exact ⟨Int.le_refl _, fun hm => hn (inB_iff.2 hm), fun j h1 h2 => by omega⟩
/-- The first k nodes have names; the second: the next number. -/
def nmP (used : List Int) (R : List PR) : Nat → List PR × Int
  | 0 => (R, 1)
  | k + 1 => if (R.getD k default).old || (R.getD k default).gone then nmP used R k else
    ((nmP used R k).1.set k { R.getD k default with nd := { (R.getD k default).nd with name := freeN used used.length (nmP used R k).2 } }, freeN used used.length (nmP used R k).2 + 1)
theorem nmP_len (used : List Int) (R : List PR) : ∀ k, (nmP used R k).1.length = R.length
  | 0 => rfl
  | k + 1 => by
    unfold nmP
    split
    · exact nmP_len used R k
    · rw [List.length_set]; exact nmP_len used R k
theorem nmP_hi (used : List Int) (R : List PR) : ∀ k j, k ≤ j → (nmP used R k).1.getD j default = R.getD j default
  | 0, _, _ => rfl
  | k + 1, j, h => by
    unfold nmP
    split
    · exact nmP_hi used R k j (by omega)
    · have : ((nmP used R k).1.set k { R.getD k default with nd := { (R.getD k default).nd with name := freeN used used.length (nmP used R k).2 } }).getD j default = (nmP used R k).1.getD j default := by simp [List.getD, show ¬ k = j by omega]
      rw [this]
      exact nmP_hi used R k j (by omega)
theorem nmP_next {used : List Int} {M : Int} (hM : ∀ z ∈ used, z ≤ M) (hM0 : 0 ≤ M) (R : List PR) : ∀ k, 1 ≤ (nmP used R k).2 ∧ (nmP used R k).2 ≤ M + 2 + k
  | 0 => by show 1 ≤ (1 : Int) ∧ (1 : Int) ≤ _; omega
  | k + 1 => by
    have ih := nmP_next hM hM0 R k
    unfold nmP
    split
    · omega
    · have hf := freeN_free used.length used (nmP used R k).2 (Nat.le_refl _)
      have h1 := hf.le
      have h2 : freeN used used.length (nmP used R k).2 ≤ M + 1 ∨ freeN used used.length (nmP used R k).2 = (nmP used R k).2 := by
        by_cases e : freeN used used.length (nmP used R k).2 = (nmP used R k).2
        · exact .inr e
        · left
          have := hM _ (hf.all (freeN used used.length (nmP used R k).2 - 1) (by omega) (by omega))
          omega
      show 1 ≤ freeN used used.length (nmP used R k).2 + 1 ∧ freeN used used.length (nmP used R k).2 + 1 ≤ _
      omega
/-- What name leaves. -/
def NmSays (g : Nat) (R : List PR) (w : World) (e : Ending) (w' : World) : Prop :=
  e = .returned (.tuple #[]) ∧ PB w' g (nmP ((R.filter (·.old)).map fun x => x.nd.name) R R.length).1 ∧ Chg (fun k => k = g) w w'

set_option maxRecDepth 100000 in
set_option maxHeartbeats 4000000 in
theorem name_any (g c : Nat) (R : List PR) (w : World) (h : PB w g R) (hll : R.length ≤ 1000) {M : Int} (hM : ∀ z ∈ (R.filter (·.old)).map (fun x => x.nd.name), z ≤ M) (hM0 : 0 ≤ M) (hM1 : M ≤ 100000) :
    Calls Try.prog 36 #[.slice (some ⟨g, 0, none⟩) R.length c] w (NmSays g R w) := by
  have hmm := @run_makeMap Try.prog
  have HPB := hid h
  have hgl := h.lt
  obtain ⟨F, hF⟩ : ∃ F, F = R.filter (·.old) := ⟨_, rfl⟩
  have hFl : F.length ≤ R.length := by rw [hF]; exact List.length_filter_le _ _
  have HF := hid hF
  have HMM := hid hM
  clear h hF hM
  go_enter Try.func36, Try.ntmps36
  obtain ⟨W0, hW0⟩ : ∃ W0, W0 = w.alloc (.map #[] 0) := ⟨_, rfl⟩
  have hb0 : Below w.heap.size w W0 := by rw [hW0]; go_grown
  have hm0 : MSet W0 w.heap.size [] := by rw [hW0]; exact MSet.new w
  have hs0 : w.heap.size < W0.heap.size := by rw [hW0]; simp only [World.size_alloc]; omega
  have HB0 := hid hb0
  have HM0 := hid hm0
  have hcall := chosenp_any g c R W0 (HPB.out.of_block (hb0.block g hgl)) (by omega)
  rw [← HF.out] at hcall
  rw [hW0] at hcall
  have HCALL := hid hcall
  have HW0 := hid hW0
  clear hW0 hb0 hm0 hcall
  go_step3
  go_wp2_with ((refine HCALL.out.mono ?_); rintro e w1 ⟨AF, cF, rfl, hb1, ho1⟩; rw [← HW0.out] at hb1 ho1; have HB1 := hid hb1; have HO1 := hid ho1; clear hb1 ho1)
  clear hmm
  go_loopw [11] (fun t wr => ∃ (k : Nat) (ks : List Int), k ≤ F.length ∧ t = .int .i64 (k : Int) ∧ MSet wr w.heap.size ks ∧ Chg (fun b => b = w.heap.size) w1 wr ∧ ∀ z, z ∈ ks ↔ z ∈ (F.take k).map fun x => x.nd.name) (fun t _ => F.length - (intOf t).toNat)
  case atStart => exact ⟨0, [], Nat.zero_le _, rfl, HM0.out.below HB1.out hs0, Chg.refl _ _, fun z => by simp⟩
  case round =>
    obtain ⟨k, ks, hk, rfl, hms, hch, hmem⟩ := hrel
    have HMS := hid hms
    have HCH := hid hch
    have HMEM := hid hmem
    have hs1 : W0.heap.size ≤ w1.heap.size := HB1.out.size
    have hmsl := hms.lt
    clear hms hch hmem
    by_cases hlt : k < F.length
    · have hki : (k : Int) < F.length := by omega
      obtain ⟨gF, hAF, hgF, hpF⟩ := PB.own HO1.out rfl (by omega)
      subst hAF
      have hpF2 := hpF.of_block (HCH.out.block gF hpF.lt (by omega))
      have hcs := hpF2.cells hlt
      obtain ⟨x, hx⟩ : ∃ x, F.getD k default = x := ⟨_, rfl⟩
      rw [hx] at hcs
      obtain ⟨g0, g1, g2, g3, g4, g5, g6⟩ := hcs
      have HX := hid hx
      obtain ⟨W2, hW2⟩ : ∃ W2, W2 = wr := ⟨_, rfl⟩
      rw [← hW2] at HMS HCH hmsl g0 g1 g2 g3 g4 g5 g6 ⊢
      clear hW2 hx hpF hpF2
      go_upto_region 4 with (fail)
      refine wp_gen fun W3 hW3 => ?_
      have hb3 : Below W2.heap.size W2 W3 := by rw [hW3]; go_grown
      have y0 : W3.cell? ⟨W2.heap.size, 0, none⟩ = some (.int .i64 x.nd.name) := by rw [hW3]; exact cell_new W2 _ _ _ 0 _ rfl rfl
      obtain ⟨w7, hrun, hm7, hg7, hs7⟩ := (HMS.out.below hb3 hmsl).put x.nd.name
      have HM7 := hid hm7
      have HCH7 := hid ((HCH.out.trans (Chg.of_new hb3)).grown hg7 (fun k e _ => (Option.some.inj e).symm))
      clear hW3 hb3 hm7 hg7 g0 g1 g2 g3 g4 g5 g6
      go_wp2_with fail
      go_roundw
      case rel =>
        refine ⟨k + 1, _, by omega, by go_num, HM7.out, HCH7.out, fun z => ?_⟩
        have hx : F[k] = x := by have := HX.out; simpa [List.getD, hlt] using this
        rw [mem_addK, HMEM.out z, List.take_succ_eq_append_getElem hlt, hx]
        simp
      case measure => simp [intOf]; omega
    · obtain rfl : k = F.length := by omega
      have hused : ∀ z, z ∈ ks ↔ z ∈ F.map fun x => x.nd.name := fun z => by rw [HMEM.out z, List.take_length]
      obtain ⟨W2, hW2⟩ : ∃ W2, W2 = wr := ⟨_, rfl⟩
      rw [← hW2] at HMS HCH hmsl ⊢
      have hchw : Chg (fun k => k = g) w W2 := ((Chg.of_new HB0.out).trans (Chg.of_new HB1.out)).trans' (U := fun b => b = w.heap.size) HCH.out (fun b hb e => by omega)
      have HCW := hid hchw
      have HUS := hid hused
      have hp2 : PB W2 g R := HPB.out.of_block ((HCH.out.block g (by omega) (by omega)).trans ((HB1.out.block g (by omega)).trans (HB0.out.block g hgl)))
      have HP2 := hid hp2
      clear hW2 hused hchw hp2
      obtain ⟨used, hus⟩ : ∃ used, used = F.map (fun x => x.nd.name) := ⟨_, rfl⟩
      have hnx := nmP_next (used := used) (M := M) (by rw [hus, HF.out]; exact HMM.out) hM0 R
      have hMu : ∀ z ∈ used, z ≤ M := by rw [hus, HF.out]; exact HMM.out
      have hks : ∀ z, z ∈ ks ↔ z ∈ used := by rw [hus]; exact HUS.out
      have HUSE := hid hus
      have HNX := hid hnx
      have HMU := hid hMu
      have HKS := hid hks
      clear hus hnx hMu hks
      go_wp2_with fail
      go_step3
      go_wp2_with fail
      go_loopg [5, 22] (R.length) (fun gk s5 s22 wr => ∃ k : Nat, k ≤ R.length ∧ s22 = .int .i64 (k : Int) ∧ s5 = .int .i64 ((nmP used R k).2 - 1) ∧ PB wr g (nmP used R k).1 ∧ MSet wr w.heap.size ks ∧ Chg (fun b => b = g) W2 wr ∧ R.length - k ≤ gk)
      case atStart => exact ⟨0, Nat.zero_le _, rfl, rfl, HP2.out, HMS.out, Chg.refl _ _, Nat.le_refl _⟩
      case round =>
        obtain ⟨k, hk, rfl, rfl, hp, hms, hch, hgk⟩ := hrel
        have HP := hid hp
        have HMS3 := hid hms
        have HCH3 := hid hch
        have hnl := nmP_len used R k
        have HNL := hid hnl
        have hn12 := HNX.out k
        clear hp hms hch hnl
        by_cases hlt : k < R.length
        · have hkl : k < (nmP used R k).1.length := by rw [HNL.out]; exact hlt
          have hki : (k : Int) < R.length := by omega
          have hcs := HP.out.cells hkl
          obtain ⟨x, hx⟩ : ∃ x, R.getD k default = x := ⟨_, rfl⟩
          have hxk : (nmP used R k).1.getD k default = x := by rw [nmP_hi used R k k (Nat.le_refl _)]; exact hx
          rw [hxk] at hcs
          obtain ⟨g0, g1, g2, g3, g4, g5, g6⟩ := hcs
          have gf0 := HP.out.free (k * 7)
          obtain ⟨o, ho⟩ : ∃ o, x.old = o := ⟨_, rfl⟩
          obtain ⟨gn, hgn⟩ : ∃ gn, x.gone = gn := ⟨_, rfl⟩
          rw [ho] at g4
          rw [hgn] at g6
          have hst : nmP used R (k + 1) = if o || gn then nmP used R k else ((nmP used R k).1.set k { x with nd := { x.nd with name := freeN used used.length (nmP used R k).2 } }, freeN used used.length (nmP used R k).2 + 1) := by
            conv => lhs; unfold nmP
            rw [hx, ← ho, ← hgn]
          have HST := hid hst
          have HX := hid hxk
          clear hx hxk ho hgn hst
          obtain ⟨W3, hW3⟩ : ∃ W3, W3 = wr := ⟨_, rfl⟩
          rw [← hW3] at HP HMS3 HCH3 g0 g1 g2 g3 g4 g5 g6 gf0 ⊢
          clear hW3
          cases o
          · cases gn
            · obtain ⟨nx, hnx⟩ : ∃ nx, (nmP used R k).2 = nx := ⟨_, rfl⟩
              rw [hnx] at hn12 HST ⊢
              have HN := hid hnx
              clear hnx
              go_wp2_with fail
              go_loopg [5] ((M + 4 + 1000).toNat) (fun gj s5 wr => ∃ l : Int, s5 = .int .i64 l ∧ nx - 1 ≤ l ∧ l ≤ M + 1 + k ∧ (∀ j, nx ≤ j → j ≤ l → j ∈ used) ∧ wr = W3 ∧ (M + 4 + 1000 - l).toNat ≤ gj)
              case atStart => exact ⟨nx - 1, rfl, Int.le_refl _, by omega, fun j h1 h2 => by omega, rfl, by omega⟩
              case round =>
                obtain ⟨l, rfl, hl1, hl2, hall, rfl, hgj⟩ := hrel
                have hlk := HMS3.out.look (l + 1)
                by_cases hin : l + 1 ∈ used
                · rw [decide_eq_true ((HKS.out _).2 hin)] at hlk
                  have hlM := HMU.out _ hin
                  have HALL := hid hall
                  have HIN := hid hin
                  clear hall hin
                  go_wp2_with fail
                  go_roundg ((M + 4 + 1000 - (l + 1)).toNat)
                  case rel =>
                    refine ⟨l + 1, rfl, by omega, by omega, fun j h1 h2 => ?_, rfl, Nat.le_refl _⟩
                    by_cases e : j = l + 1
                    · rw [e]; exact HIN.out
                    · exact HALL.out j h1 (by omega)
                  all_goals omega
                · rw [decide_eq_false (fun h => hin ((HKS.out _).1 h))] at hlk
                  have hfr : freeN used used.length nx = l + 1 := (freeN_free used.length used nx (Nat.le_refl _)).uniq ⟨by omega, hin, fun j h1 h2 => hall j h1 (by omega)⟩
                  have HFR := hid hfr
                  clear hall hin hfr
                  go_wp2_with fail
                  go_roundg (R.length - (k + 1))
                  case rel =>
                    have hp5 := HP.out.set hkl (j := 0) (by omega) (.int .i64 (l + 1)) { x with nd := { x.nd with name := l + 1 } } (by rw [HX.out]; rfl)
                    have hst := HST.out
                    simp only [Bool.or_false, Bool.false_eq_true, if_false] at hst
                    rw [HFR.out] at hst
                    refine ⟨k + 1, by omega, by go_num, by rw [hst]; go_num, by rw [hst]; exact hp5, HMS3.out.of_block (Below.heap_setCell _ _ _ _ (by show w.heap.size ≠ g; omega)), HCH3.out.set _ _ (fun _ => rfl), Nat.le_refl _⟩
                  all_goals omega
            · go_wp2_with fail
              go_roundg (R.length - (k + 1))
              case rel =>
                have hst := HST.out
                simp only [Bool.or_true, if_true] at hst
                exact ⟨k + 1, by omega, by go_num, by rw [hst], by rw [hst]; exact HP.out, HMS3.out, HCH3.out, Nat.le_refl _⟩
              all_goals omega
          · go_wp2_with fail
            go_roundg (R.length - (k + 1))
            case rel =>
              have hst := HST.out
              simp only [Bool.true_or, if_true] at hst
              exact ⟨k + 1, by omega, by go_num, by rw [hst], by rw [hst]; exact HP.out, HMS3.out, HCH3.out, Nat.le_refl _⟩
            all_goals omega
        · obtain rfl : k = R.length := by omega
          go_wp2_with fail
          try rw [Exit.noGoto_ret]
          go_end0
          refine ⟨rfl, ?_, HCW.out.trans HCH3.out⟩
          have := HP.out
          rw [HUSE.out, HF.out] at this
          exact this
end Go.Proofs.Ythhknonaebnooaa
set_option linter.unusedVariables false
set_option linter.unusedSimpArgs false
namespace Go.Proofs.Ythhknonaebnooaa
open Go.RowKit

def hdB (n : Nat) (t : List Nd) (i : Nat) : Bool := decide (1 ≤ (nd t i).name) && decide ((nd t i).name ≤ 2 * (n : Int)) && decide (0 < (nd t i).set.length) && (decide (i = 0) == decide ((nd t i).parent = -1)) && decide ((nd t i).parent < (i : Int)) && decide (-1 ≤ (nd t i).parent)
def stB (n : Nat) (t : List Nd) (i k : Nat) : Bool := decide (0 ≤ (nd t i).set.getD k 0) && decide ((nd t i).set.getD k 0 < (n : Int)) && (decide (k = 0) || decide ((nd t i).set.getD (k - 1) 0 < (nd t i).set.getD k 0)) && (decide (i = 0) || inB (nd t (nd t i).parent.toNat).set ((nd t i).set.getD k 0))
def sbB (t : List Nd) (i k : Nat) : Bool := !decide ((nd t k).name = (nd t i).name) && (!decide ((nd t k).parent = (nd t i).parent) || (nd t i).set.all fun s => !inB (nd t k).set s)
def n1B (n : Nat) (t : List Nd) (i : Nat) : Bool := hdB n t i && allN (nd t i).set.length (stB n t i) && allN i (sbB t i)
def n2B (t : List Nd) (i : Nat) : Bool := decide ((unionZ t (i : Int)).length < (nd t i).set.length)
theorem nodeB_eq (n : Nat) (t : List Nd) (i : Nat) : nodeB n t i = (n1B n t i && n2B t i) := rfl
theorem hdB_iff {n : Nat} {t : List Nd} {i : Nat} : hdB n t i = true ↔ 1 ≤ (nd t i).name ∧ (nd t i).name ≤ 2 * (n : Int) ∧ 0 < (nd t i).set.length ∧ (i = 0 → (nd t i).parent = -1) ∧ (0 < i → 0 ≤ (nd t i).parent ∧ (nd t i).parent < (i : Int)) := by
  unfold hdB
  simp only [Bool.and_eq_true, decide_eq_true_eq, beq_iff_eq]
  constructor
  · rintro ⟨⟨⟨⟨⟨h1, h2⟩, h3⟩, h4⟩, h5⟩, h6⟩
    refine ⟨h1, h2, h3, fun h0 => ?_, fun h0 => ?_⟩
    · rw [decide_eq_true h0] at h4; simpa using h4.symm
    · rw [decide_eq_false (by omega)] at h4
      have : ¬ (nd t i).parent = -1 := by simpa using h4.symm
      omega
  · rintro ⟨h1, h2, h3, h4, h5⟩
    rcases Nat.eq_zero_or_pos i with h0 | h0
    · have := h4 h0
      refine ⟨⟨⟨⟨⟨h1, h2⟩, h3⟩, ?_⟩, by omega⟩, by omega⟩
      rw [decide_eq_true h0, decide_eq_true this]
    · have := h5 h0
      refine ⟨⟨⟨⟨⟨h1, h2⟩, h3⟩, ?_⟩, by omega⟩, by omega⟩
      rw [decide_eq_false (by omega), decide_eq_false (by omega)]
theorem stB_iff {n : Nat} {t : List Nd} {i k : Nat} : stB n t i k = true ↔ 0 ≤ (nd t i).set.getD k 0 ∧ (nd t i).set.getD k 0 < (n : Int) ∧ (0 < k → (nd t i).set.getD (k - 1) 0 < (nd t i).set.getD k 0) ∧ (0 < i → (nd t i).set.getD k 0 ∈ (nd t (nd t i).parent.toNat).set) := by
  unfold stB
  simp only [Bool.and_eq_true, Bool.or_eq_true, decide_eq_true_eq, inB_iff]
  constructor
  · rintro ⟨⟨⟨h1, h2⟩, h3⟩, h4⟩
    exact ⟨h1, h2, fun h => h3.resolve_left (by omega), fun h => h4.resolve_left (by omega)⟩
  · rintro ⟨h1, h2, h3, h4⟩
    refine ⟨⟨⟨h1, h2⟩, ?_⟩, ?_⟩
    · by_cases e : k = 0
      · exact .inl e
      · exact .inr (h3 (by omega))
    · by_cases e : i = 0
      · exact .inl e
      · exact .inr (h4 (by omega))
theorem sbB_iff {t : List Nd} {i k : Nat} : sbB t i k = true ↔ (nd t k).name ≠ (nd t i).name ∧ ((nd t k).parent = (nd t i).parent → ∀ s ∈ (nd t i).set, s ∉ (nd t k).set) := by
  unfold sbB
  simp only [Bool.and_eq_true, Bool.or_eq_true, Bool.not_eq_true', decide_eq_false_iff_not, List.all_eq_true]
  refine and_congr Iff.rfl ⟨fun h he s hs => ?_, fun h => ?_⟩
  · have := h.resolve_left (fun hn => hn he) s hs
    intro hm
    rw [inB_iff.2 hm] at this; cases this
  · by_cases e : (nd t k).parent = (nd t i).parent
    · refine .inr fun s hs => ?_
      cases hm : inB (nd t k).set s
      · rfl
      · exact absurd (inB_iff.1 hm) (h e s hs)
    · exact .inl e
theorem inc_nodup {l : List Int} (h : ∀ k, 0 < k → k < l.length → l.getD (k - 1) 0 < l.getD k 0) : l.Pairwise (· < ·) := by
  rw [List.pairwise_iff_getElem]
  have key : ∀ d i, i + d + 1 < l.length → l.getD i 0 < l.getD (i + d + 1) 0 := fun d => by
    induction d with
    | zero => intro i hi; exact h (i + 1) (by omega) hi
    | succ d ih =>
      intro i hi
      have h1 := ih i (by omega)
      have h2 := h (i + (d + 1) + 1) (by omega) hi
      have e : i + (d + 1) + 1 - 1 = i + d + 1 := by omega
      rw [e] at h2
      omega
  intro i j hi hj hij
  have := key (j - i - 1) i (by omega)
  have e : i + (j - i - 1) + 1 = j := by omega
  rw [e] at this
  simpa [List.getD, hi, hj] using this
theorem set_inc {n : Nat} {t : List Nd} {i : Nat} (h : allN (nd t i).set.length (stB n t i) = true) : (nd t i).set.Pairwise (· < ·) :=
  inc_nodup fun k h0 hk => (stB_iff.1 (allN_true.1 h k hk)).2.2.1 h0
theorem inc_nd {l : List Int} (h : l.Pairwise (· < ·)) : l.Nodup := h.imp fun h e => by omega
/-- Is s in the set of a child of p among the first i nodes? -/
def TookT (t : List Nd) (i : Nat) (p : Int) (s : Int) : Prop := ∃ j, j < i ∧ (nd t j).parent = p ∧ s ∈ (nd t j).set
theorem union_mem (t : List Nd) (p s : Int) : ∀ {k}, k ≤ t.length → (s ∈ unionZ (t.take k) p ↔ TookT t k p s)
  | 0, _ => by simp [unionZ, TookT]
  | k + 1, hk => by
    rw [union_snoc t p (by omega), List.mem_append, union_mem t p s (by omega)]
    constructor
    · rintro (⟨j, hj, h1, h2⟩ | h)
      · exact ⟨j, by omega, h1, h2⟩
      · split at h
        · exact ⟨k, by omega, by assumption, h⟩
        · cases h
    · rintro ⟨j, hj, h1, h2⟩
      by_cases e : j = k
      · subst e
        right; rw [if_pos h1]; exact h2
      · exact .inl ⟨j, by omega, h1, h2⟩
theorem union_nodup {n : Nat} {t : List Nd} (h : ∀ i, i < t.length → n1B n t i = true) (p : Int) : ∀ {k}, k ≤ t.length → (unionZ (t.take k) p).Nodup
  | 0, _ => by simp [unionZ]
  | k + 1, hk => by
    rw [union_snoc t p (by omega)]
    have hk1 := h k (by omega)
    unfold n1B at hk1
    simp only [Bool.and_eq_true] at hk1
    split
    · rename_i hp
      rw [List.nodup_append]
      refine ⟨union_nodup h p (by omega), inc_nd (set_inc hk1.1.2), fun a ha b hb e => ?_⟩
      subst e
      obtain ⟨j, hj, h1, h2⟩ := (union_mem t p a (by omega)).1 ha
      exact (sbB_iff.1 (allN_true.1 hk1.2 j hj)).2 (by rw [h1, hp]) a hb h2
    · rw [List.append_nil]; exact union_nodup h p (by omega)
theorem nodup_sub : ∀ {l m : List Int}, l.Nodup → (∀ x ∈ l, x ∈ m) → l.length ≤ m.length
  | [], _, _, _ => Nat.zero_le _
  | a :: l, m, h, hs => by
    rw [List.nodup_cons] at h
    have ha := hs a (by simp)
    have := nodup_sub (l := l) (m := m.erase a) h.2 (fun x hx => (List.mem_erase_of_ne (fun e => h.1 (by rw [← e]; exact hx))).2 (hs x (List.mem_cons_of_mem _ hx)))
    rw [List.length_erase_of_mem ha] at this
    have hpos : 0 < m.length := List.length_pos_of_mem ha
    simp only [List.length_cons]
    omega
/-- The children of a node have no other states than it has. -/
theorem union_le {n : Nat} {t : List Nd} (h : ∀ i, i < t.length → n1B n t i = true) (i : Nat) : (unionZ t (i : Int)).length ≤ (nd t i).set.length := by
  have hn := union_nodup h (i : Int) (Nat.le_refl t.length)
  rw [List.take_length] at hn
  refine nodup_sub hn fun s hs => ?_
  have hs' := (union_mem t (i : Int) s (Nat.le_refl t.length)).1 (by rw [List.take_length]; exact hs)
  obtain ⟨j, hj, h1, h2⟩ := hs'
  have hj1 := h j hj
  unfold n1B at hj1
  simp only [Bool.and_eq_true] at hj1
  have hh := hdB_iff.1 hj1.1.1
  obtain ⟨k, hk, rfl⟩ := List.getElem_of_mem h2
  have hj0 : 0 < j := by
    rcases Nat.eq_zero_or_pos j with h0 | h0
    · have := hh.2.2.2.1 h0; omega
    · exact h0
  have := (stB_iff.1 (allN_true.1 hj1.1.2 k hk)).2.2.2 hj0
  rw [h1, Int.toNat_natCast] at this
  simpa [List.getD, hk] using this

/-- Sets in different blocks. -/
structure Fam (w : World) (F : List (Nat × List Int)) : Prop where
  set : ∀ j, j < F.length → MSet w (F.getD j (0, [])).1 (F.getD j (0, [])).2
  ne : ∀ j j', j < F.length → j' < F.length → j ≠ j' → (F.getD j (0, [])).1 ≠ (F.getD j' (0, [])).1
section
variable {w w' : World} {F : List (Nat × List Int)}
theorem Fam.nil (w : World) : Fam w [] := ⟨fun _ h => absurd h (Nat.not_lt_zero _), fun _ _ h => absurd h (Nat.not_lt_zero _)⟩
theorem Fam.lt (h : Fam w F) {j : Nat} (hj : j < F.length) : (F.getD j (0, [])).1 < w.heap.size := (h.set j hj).lt
theorem Fam.keep (h : Fam w F) (hb : ∀ j, j < F.length → w'.heap[(F.getD j (0, [])).1]? = w.heap[(F.getD j (0, [])).1]?) : Fam w' F := ⟨fun j hj => (h.set j hj).of_block (hb j hj), h.ne⟩
theorem Fam.below (h : Fam w F) (hb : Below w.heap.size w w') : Fam w' F := h.keep fun j hj => hb.block _ (h.lt hj)
/-- A store into a block of cells. -/
theorem MSet.setCell {mb : Nat} {ks : List Int} (h : MSet w mb ks) {p : Addr} {cs : Array Value} {T : TypeId} {fr : Nat × Nat} (hc : w.heap[p.block]? = some (.cells cs T fr)) (u : Value) : MSet (w.setCell p u) mb ks := by
  refine h.of_block (Below.heap_setCell _ _ _ _ fun e => ?_)
  obtain ⟨es, cl, h1, _⟩ := h.map
  rw [e, hc] at h1; cases h1
theorem Fam.setCell (h : Fam w F) {p : Addr} {cs : Array Value} {T : TypeId} {fr : Nat × Nat} (hc : w.heap[p.block]? = some (.cells cs T fr)) (u : Value) : Fam (w.setCell p u) F := ⟨fun j hj => (h.set j hj).setCell hc u, h.ne⟩
theorem Fam.snoc (h : Fam w F) {b : Nat} (hb : MSet w b []) (hn : ∀ j, j < F.length → (F.getD j (0, [])).1 ≠ b) : Fam w (F ++ [(b, [])]) := by
  have hl : (F ++ [(b, ([] : List Int))]).length = F.length + 1 := by simp
  refine ⟨fun j hj => ?_, fun j j' hj hj' hne => ?_⟩
  · rw [hl] at hj; rw [getD_snoc F _ _ j hj]; split
    · exact hb
    · exact h.set j (by omega)
  · rw [hl] at hj hj'; rw [getD_snoc F _ _ j hj, getD_snoc F _ _ j' hj']; split
    · rw [if_neg (by omega)]; exact fun e => hn j' (by omega) e.symm
    · split
      · exact hn j (by omega)
      · exact h.ne j j' (by omega) (by omega) hne
theorem Fam.put (h : Fam w F) {j : Nat} (hj : j < F.length) (z : Int) : ∃ w', (Instr.mapUpdate 65 (.map (some (F.getD j (0, [])).1)) (.int .i64 z) (.bool true)).run Try.prog w = .ok () w' ∧
    Fam w' (F.set j ((F.getD j (0, [])).1, addK (F.getD j (0, [])).2 z)) ∧ w.grownBy w' (some (F.getD j (0, [])).1) ∧ w'.heap.size = w.heap.size := by
  obtain ⟨w', h1, h2, h3, h4⟩ := (h.set j hj).put z
  have hat : ∀ i, (F.set j ((F.getD j (0, [])).1, addK (F.getD j (0, [])).2 z)).getD i (0, []) = if j = i then ((F.getD j (0, [])).1, addK (F.getD j (0, [])).2 z) else F.getD i (0, []) := fun i => by
    by_cases e : j = i
    · subst e; simp [List.getD, hj]
    · simp [List.getD, e]
  refine ⟨w', h1, ⟨fun i hi => ?_, fun i i' hi hi' hne => ?_⟩, h3, h4⟩
  · rw [List.length_set] at hi
    rw [hat i]; split
    · exact h2
    · rename_i e
      exact (h.set i hi).of_block (h3.block _ (h.lt hi) (fun e1 => h.ne i j hi hj (fun e2 => e e2.symm) (Option.some.inj e1)))
  · rw [List.length_set] at hi hi'
    rw [hat i, hat i']; split
    · rename_i e; subst e
      rw [if_neg hne]; exact h.ne j i' hj hi' hne
    · split
      · rename_i e; subst e
        exact h.ne i j hi hj hne
      · exact h.ne i i' hi hi' hne
end
end Go.Proofs.Ythhknonaebnooaa
set_option linter.unusedVariables false
set_option linter.unusedSimpArgs false
namespace Go.Proofs.Ythhknonaebnooaa
open Go.RowKit

theorem MSet.ne_cell {w : World} {mb : Nat} {ks : List Int} (h : MSet w mb ks) {b o : Nat} {u : Value} (hc : w.cell? ⟨b, o, none⟩ = some u) : b ≠ mb := by
  obtain ⟨es, cl, h1, _⟩ := h.map
  intro e
  subst e
  simp [World.cell?, h1] at hc
theorem MSet.ne_cells {w : World} {mb : Nat} {ks : List Int} (h : MSet w mb ks) {b : Nat} {cs : Array Value} {T : TypeId} {fr : Nat × Nat} (hc : w.heap[b]? = some (.cells cs T fr)) : b ≠ mb := by
  obtain ⟨es, cl, h1, _⟩ := h.map
  intro e
  subst e
  rw [h1] at hc; cases hc
/-- The maps of names, of sets and of what is below, in memory. -/
structure VdS (w wr : World) (n : Nat) (F : List (Nat × List Int)) (m : Nat) : Prop where
  below : Below w.heap.size w wr
  fam : Fam wr F
  len : F.length = 1 + 2 * m
  nmb : (F.getD 0 (0, [])).1 = w.heap.size
  sk : ∃ cur, wr.heap[w.heap.size + 1]? = some (.cells cur 65 (0, 0)) ∧ cur.size = n ∧ ∀ j, j < m → cur[j]? = some (.map (some (F.getD (1 + 2 * j) (0, [])).1))
  bk : ∃ cur, wr.heap[w.heap.size + 1 + 1]? = some (.cells cur 65 (0, 0)) ∧ cur.size = n ∧ ∀ j, j < m → cur[j]? = some (.map (some (F.getD (2 + 2 * j) (0, [])).1))
  big : ∀ j, j < F.length → w.heap.size ≤ (F.getD j (0, [])).1
section
variable {w wr wr' : World} {n m : Nat} {F : List (Nat × List Int)}
theorem VdS.next (h : VdS w wr n F m) (hb : Below wr.heap.size wr wr') : VdS w wr' n F m :=
  ⟨h.below.trans (hb.mono h.below.size), h.fam.below hb, h.len, h.nmb, let ⟨c, h1, h2⟩ := h.sk; ⟨c, (hb.block _ (lt_of_block h1)).trans h1, h2⟩, let ⟨c, h1, h2⟩ := h.bk; ⟨c, (hb.block _ (lt_of_block h1)).trans h1, h2⟩, h.big⟩
theorem set_at (F : List (Nat × List Int)) {j : Nat} (hj : j < F.length) (x : Nat × List Int) (i : Nat) : (F.set j x).getD i (0, []) = if j = i then x else F.getD i (0, []) := by
  by_cases e : j = i
  · subst e; simp [List.getD, hj]
  · simp [List.getD, e]
def putF (F : List (Nat × List Int)) (j : Nat) (z : Int) : List (Nat × List Int) := F.set j ((F.getD j (0, [])).1, addK (F.getD j (0, [])).2 z)
theorem putF_blk (F : List (Nat × List Int)) {j : Nat} (hj : j < F.length) (z : Int) (i : Nat) : ((putF F j z).getD i (0, [])).1 = (F.getD i (0, [])).1 := by
  unfold putF
  rw [set_at F hj]
  split
  · rename_i e; subst e; rfl
  · rfl
theorem putF_mem (F : List (Nat × List Int)) {j : Nat} (hj : j < F.length) (z : Int) (i : Nat) (y : Int) : y ∈ ((putF F j z).getD i (0, [])).2 ↔ y ∈ (F.getD i (0, [])).2 ∨ (i = j ∧ y = z) := by
  unfold putF
  rw [set_at F hj]
  split
  · rename_i e; subst e
    rw [mem_addK]; simp
  · rename_i e
    exact ⟨.inl, fun h => h.elim id (fun h => absurd h.1.symm e)⟩
theorem putF_len (F : List (Nat × List Int)) (j : Nat) (z : Int) : (putF F j z).length = F.length := by unfold putF; rw [List.length_set]
theorem VdS.put (h : VdS w wr n F m) {j : Nat} (hj : j < F.length) (z : Int) : ∃ w', (Instr.mapUpdate 65 (.map (some (F.getD j (0, [])).1)) (.int .i64 z) (.bool true)).run Try.prog wr = .ok () w' ∧
    VdS w w' n (putF F j z) m ∧ (∀ b o u, wr.cell? ⟨b, o, none⟩ = some u → w'.cell? ⟨b, o, none⟩ = some u) ∧ w'.heap.size = wr.heap.size := by
  obtain ⟨w', h1, h2, h3, h4⟩ := h.fam.put hj z
  have hne : ∀ {b : Nat} {cs : Array Value} {T : TypeId} {fr : Nat × Nat}, wr.heap[b]? = some (.cells cs T fr) → w'.heap[b]? = wr.heap[b]? := fun hc => h3.block _ (lt_of_block hc) (fun e => (h.fam.set j hj).ne_cells hc (Option.some.inj e))
  refine ⟨w', h1, ⟨?_, h2, by rw [putF_len]; exact h.len, by rw [putF_blk F hj]; exact h.nmb, ?_, ?_, fun i hi => ?_⟩, fun b o u hc => ?_, h4⟩
  · refine h.below.grown h3 h.below.size fun k e => ?_
    have := h.big j hj
    have e' := Option.some.inj e
    omega
  · obtain ⟨c, a1, a2, a3⟩ := h.sk
    exact ⟨c, (hne a1).trans a1, a2, fun i hi => by rw [putF_blk F hj]; exact a3 i hi⟩
  · obtain ⟨c, a1, a2, a3⟩ := h.bk
    exact ⟨c, (hne a1).trans a1, a2, fun i hi => by rw [putF_blk F hj]; exact a3 i hi⟩
  · rw [putF_len] at hi
    rw [putF_blk F hj]; exact h.big i hi
  · rw [← hc]
    exact World.cell?_of_block (w := wr) (a := ⟨b, o, none⟩) (h3.block b (World.block_lt_of_cell? wr ⟨b, o, none⟩ hc) (fun e => (h.fam.set j hj).ne_cell hc (Option.some.inj e)))
theorem VdS.cells (h : VdS w wr n F m) {j : Nat} (hj : j < m) : wr.cell? ⟨w.heap.size + 1, j, none⟩ = some (.map (some (F.getD (1 + 2 * j) (0, [])).1)) ∧ wr.cell? ⟨w.heap.size + 1 + 1, j, none⟩ = some (.map (some (F.getD (2 + 2 * j) (0, [])).1)) := by
  obtain ⟨c, a1, a2, a3⟩ := h.sk
  obtain ⟨d, b1, b2, b3⟩ := h.bk
  exact ⟨block_cell a1 (a3 j hj), block_cell b1 (b3 j hj)⟩
theorem VdS.slot (h : VdS w wr n F m) {j : Nat} (hj : j < n) : (∃ u, wr.cell? ⟨w.heap.size + 1, j, none⟩ = some u) ∧ (∃ u, wr.cell? ⟨w.heap.size + 1 + 1, j, none⟩ = some u) ∧ wr.frozen? ⟨w.heap.size + 1, j, none⟩ = false ∧ wr.frozen? ⟨w.heap.size + 1 + 1, j, none⟩ = false := by
  obtain ⟨c, a1, a2, a3⟩ := h.sk
  obtain ⟨d, b1, b2, b3⟩ := h.bk
  exact ⟨⟨_, block_cell a1 (Array.getElem?_eq_getElem (by omega))⟩, ⟨_, block_cell b1 (Array.getElem?_eq_getElem (by omega))⟩, block_free a1, block_free b1⟩
/-- The two maps of a further node. -/
theorem VdS.more (h : VdS w wr n F m) {w1 : World} (h1 : w1 = (wr.setCell ⟨w.heap.size + 1, m, none⟩ (.map (some wr.heap.size))).alloc (.map #[] 0)) (h2 : wr' = (w1.setCell ⟨w.heap.size + 1 + 1, m, none⟩ (.map (some w1.heap.size))).alloc (.map #[] 0)) (hm : m < n) :
    VdS w wr' n (F ++ [(wr.heap.size, [])] ++ [(w1.heap.size, [])]) (m + 1) := by
  obtain ⟨c, a1, a2, a3⟩ := h.sk
  obtain ⟨d, b1, b2, b3⟩ := h.bk
  have hl1 := lt_of_block a1
  have hl2 := lt_of_block b1
  have hw1 : w1.heap.size = wr.heap.size + 1 := by rw [h1]; simp
  have hblk : ∀ b, b < wr.heap.size → b ≠ w.heap.size + 1 → b ≠ w.heap.size + 1 + 1 → wr'.heap[b]? = wr.heap[b]? := fun b hb n1 n2 => by
    rw [h2]
    refine (Below.heap_alloc _ _ _ (by simp; omega)).trans ((Below.heap_setCell _ _ _ _ n2).trans ?_)
    rw [h1]
    exact (Below.heap_alloc _ _ _ (by simpa using hb)).trans (Below.heap_setCell _ _ _ _ n1)
  have hfam1 : Fam w1 (F ++ [(wr.heap.size, [])]) := by
    have hf : Fam (wr.setCell ⟨w.heap.size + 1, m, none⟩ (.map (some wr.heap.size))) F := h.fam.setCell a1 _
    have hf2 : Fam w1 F := by rw [h1]; exact hf.below ((Below.refl _ _).alloc (Nat.le_refl _) _)
    refine hf2.snoc ?_ (fun j hj => by have := h.fam.lt hj; omega)
    have := MSet.new (wr.setCell ⟨w.heap.size + 1, m, none⟩ (.map (some wr.heap.size)))
    rw [World.size_setCell] at this
    rw [h1]; exact this
  have b1' : w1.heap[w.heap.size + 1 + 1]? = some (.cells d 65 (0, 0)) := by
    rw [h1]
    exact (Below.heap_alloc _ _ _ (by simpa using hl2)).trans ((Below.heap_setCell _ _ _ _ (by show w.heap.size + 1 + 1 ≠ w.heap.size + 1; omega)).trans b1)
  have hfam2 : Fam wr' (F ++ [(wr.heap.size, [])] ++ [(w1.heap.size, [])]) := by
    have hf : Fam (w1.setCell ⟨w.heap.size + 1 + 1, m, none⟩ (.map (some w1.heap.size))) (F ++ [(wr.heap.size, [])]) := hfam1.setCell b1' _
    have hf2 : Fam wr' (F ++ [(wr.heap.size, [])]) := by rw [h2]; exact hf.below ((Below.refl _ _).alloc (Nat.le_refl _) _)
    refine hf2.snoc ?_ (fun j hj => by have := hfam1.lt hj; omega)
    have := MSet.new (w1.setCell ⟨w.heap.size + 1 + 1, m, none⟩ (.map (some w1.heap.size)))
    rw [World.size_setCell] at this
    rw [h2]; exact this
  have hat : ∀ j, (F ++ [(wr.heap.size, [])] ++ [(w1.heap.size, ([] : List Int))]).getD j (0, []) = if j < F.length then F.getD j (0, []) else if j = F.length then (wr.heap.size, []) else if j = F.length + 1 then (w1.heap.size, []) else (0, []) := fun j => by
    by_cases e : j < F.length
    · rw [if_pos e]; simp [List.getD, List.getElem?_append, e, show j < F.length + 1 by omega]
    · rw [if_neg e]
      by_cases e2 : j = F.length
      · subst e2; simp [List.getD, List.getElem?_append]
      · rw [if_neg e2]
        by_cases e3 : j = F.length + 1
        · subst e3; simp [List.getD, List.getElem?_append]
        · rw [if_neg e3]
          have : ((F ++ [(wr.heap.size, [])] ++ [(w1.heap.size, ([] : List Int))])[j]?) = none := by rw [List.getElem?_eq_none_iff]; simp; omega
          rw [List.getD_eq_getElem?_getD, this]; rfl
  have hFl := h.len
  refine ⟨?_, hfam2, by simp [h.len]; omega, ?_, ?_, ?_, fun j hj => ?_⟩
  · have e1 : Below w.heap.size w w1 := by
      rw [h1]
      exact (h.below.setCell (p := ⟨w.heap.size + 1, m, none⟩) (by show w.heap.size ≤ w.heap.size + 1; omega) _).trans ((Below.refl _ _).alloc (by simp; exact h.below.size) _)
    rw [h2]
    exact (e1.setCell (p := ⟨w.heap.size + 1 + 1, m, none⟩) (by show w.heap.size ≤ w.heap.size + 1 + 1; omega) _).trans ((Below.refl _ _).alloc (by simp; exact e1.size) _)
  · rw [hat 0, if_pos (by omega)]; exact h.nmb
  · refine ⟨c.setIfInBounds m (.map (some wr.heap.size)), ?_, by simpa using a2, fun j hj => ?_⟩
    · rw [h2]
      refine (Below.heap_alloc _ _ _ (by simp; omega)).trans ((Below.heap_setCell _ _ _ _ (by show w.heap.size + 1 ≠ w.heap.size + 1 + 1; omega)).trans ?_)
      rw [h1]
      exact (Below.heap_alloc _ _ _ (by simpa using hl1)).trans (set_block a1 _)
    · rw [hat, Array.getElem?_setIfInBounds]
      by_cases e : m = j
      · subst e
        rw [if_pos rfl, if_pos (by omega), if_neg (by omega), if_pos (by omega)]
      · rw [if_neg e, if_pos (by omega)]; exact a3 j (by omega)
  · refine ⟨d.setIfInBounds m (.map (some w1.heap.size)), ?_, by simpa using b2, fun j hj => ?_⟩
    · rw [h2]
      exact (Below.heap_alloc _ _ _ (by simp; omega)).trans (set_block b1' _)
    · rw [hat, Array.getElem?_setIfInBounds]
      by_cases e : m = j
      · subst e
        rw [if_pos rfl, if_pos (by omega), if_neg (by omega), if_neg (by omega), if_pos (by omega)]
      · rw [if_neg e, if_pos (by omega)]; exact b3 j (by omega)
  · have hs := h.below.size
    rw [hat]
    simp only [List.length_append, List.length_singleton] at hj
    split
    · exact h.big j (by omega)
    · split
      · exact hs
      · split
        · show w.heap.size ≤ w1.heap.size; omega
        · omega
theorem snoc2_mem (F : List (Nat × List Int)) (a b : Nat) {j : Nat} (hj : j < F.length + 2) (z : Int) : z ∈ ((F ++ [(a, [])] ++ [(b, ([] : List Int))]).getD j (0, [])).2 ↔ j < F.length ∧ z ∈ (F.getD j (0, [])).2 := by
  rw [getD_snoc (F ++ [(a, [])]) (b, []) (0, []) j (by simp; omega)]
  split
  · rename_i e
    simp at e
    simp; omega
  · rename_i e
    simp at e
    rw [getD_snoc F (a, []) (0, []) j (by omega)]
    split
    · rename_i e2; simp; omega
    · exact ⟨fun h => ⟨by omega, h⟩, fun h => h.2⟩
end
/-- What the maps hold: ni names, the sets of i nodes, k states of the next one. -/
structure VdC (t : List Nd) (F : List (Nat × List Int)) (ni i m k : Nat) : Prop where
  nms : ∀ z, z ∈ (F.getD 0 (0, [])).2 ↔ ∃ j, j < ni ∧ (nd t j).name = z
  lo : ∀ j, j < i → ∀ z, z ∈ (F.getD (1 + 2 * j) (0, [])).2 ↔ z ∈ (nd t j).set
  at_ : i < m → ∀ z, z ∈ (F.getD (1 + 2 * i) (0, [])).2 ↔ z ∈ (nd t i).set.take k
  bel : ∀ j, j < m → ∀ z, z ∈ (F.getD (2 + 2 * j) (0, [])).2 ↔ TookT t i (j : Int) z ∨ ((nd t i).parent = (j : Int) ∧ z ∈ (nd t i).set.take k)
section
variable {t : List Nd} {F : List (Nat × List Int)} {i k : Nat}
theorem VdC.name (h : VdC t F i i i 0) (hl : 0 < F.length) : VdC t (putF F 0 (nd t i).name) (i + 1) i i 0 := by
  refine ⟨fun z => ?_, fun j hj z => ?_, fun h0 => absurd h0 (Nat.lt_irrefl _), fun j hj z => ?_⟩
  · rw [putF_mem F hl, h.nms z]
    constructor
    · rintro (⟨j, hj, e⟩ | ⟨_, e⟩)
      · exact ⟨j, by omega, e⟩
      · exact ⟨i, by omega, e.symm⟩
    · rintro ⟨j, hj, e⟩
      by_cases e2 : j = i
      · subst e2; exact .inr ⟨rfl, e.symm⟩
      · exact .inl ⟨j, by omega, e⟩
  · rw [putF_mem F hl, h.lo j hj z]
    exact ⟨fun h => h.elim id (fun h => absurd h.1 (by omega)), .inl⟩
  · rw [putF_mem F hl, h.bel j hj z]
    exact ⟨fun h => h.elim id (fun h => absurd h.1 (by omega)), .inl⟩
theorem VdC.more (h : VdC t F (i + 1) i i 0) (hl : F.length = 1 + 2 * i) (a b : Nat) (hpar : ∀ j, j < i → (nd t j).parent < (i : Int)) : VdC t (F ++ [(a, [])] ++ [(b, [])]) (i + 1) i (i + 1) 0 := by
  refine ⟨fun z => ?_, fun j hj z => ?_, fun _ z => ?_, fun j hj z => ?_⟩
  · rw [snoc2_mem F a b (by omega), ← h.nms z]
    exact ⟨fun h => h.2, fun h => ⟨by omega, h⟩⟩
  · rw [snoc2_mem F a b (by omega), ← h.lo j hj z]
    exact ⟨fun h => h.2, fun h => ⟨by omega, h⟩⟩
  · rw [snoc2_mem F a b (by omega)]
    simp; omega
  · rw [snoc2_mem F a b (by omega)]
    by_cases e : j = i
    · subst e
      constructor
      · intro h; omega
      · rintro (⟨q, hq, e, _⟩ | ⟨_, e⟩)
        · have := hpar q hq; omega
        · simp at e
    · rw [← h.bel j (by omega) z]
      exact ⟨fun h => h.2, fun h => ⟨by omega, h⟩⟩
theorem take_mem (l : List Int) {k : Nat} (hk : k < l.length) (z : Int) : z ∈ l.take (k + 1) ↔ z ∈ l.take k ∨ z = l.getD k 0 := by
  have hx : l[k] = l.getD k 0 := by simp [List.getD, hk]
  rw [List.take_succ_eq_append_getElem hk, hx]
  simp
/-- A state of the first node. -/
theorem VdC.one (h : VdC t F (i + 1) i (i + 1) k) (hl : F.length = 1 + 2 * (i + 1)) (hk : k < (nd t i).set.length) (hp : (nd t i).parent = -1) : VdC t (putF F (1 + 2 * i) ((nd t i).set.getD k 0)) (i + 1) i (i + 1) (k + 1) := by
  have hj : 1 + 2 * i < F.length := by omega
  refine ⟨fun z => ?_, fun j hj' z => ?_, fun _ z => ?_, fun j hj' z => ?_⟩
  · rw [putF_mem F hj, ← h.nms z]
    exact ⟨fun h => h.elim id (fun h => absurd h.1 (by omega)), .inl⟩
  · rw [putF_mem F hj, ← h.lo j hj' z]
    exact ⟨fun h => h.elim id (fun h => absurd h.1 (by omega)), .inl⟩
  · rw [putF_mem F hj, h.at_ (by omega) z, take_mem _ hk]; simp
  · rw [putF_mem F hj, h.bel j hj' z, hp]
    constructor
    · rintro ((h | h) | h)
      · exact .inl h
      · omega
      · omega
    · rintro (h | h)
      · exact .inl (.inl h)
      · omega
/-- A state of another node, with parent p. -/
theorem VdC.two (h : VdC t F (i + 1) i (i + 1) k) (hl : F.length = 1 + 2 * (i + 1)) (hk : k < (nd t i).set.length) {p : Nat} (hp : (nd t i).parent = (p : Int)) (hpi : p < i) : VdC t (putF (putF F (1 + 2 * i) ((nd t i).set.getD k 0)) (2 + 2 * p) ((nd t i).set.getD k 0)) (i + 1) i (i + 1) (k + 1) := by
  have hj : 1 + 2 * i < F.length := by omega
  have hq : 2 + 2 * p < (putF F (1 + 2 * i) ((nd t i).set.getD k 0)).length := by rw [putF_len]; omega
  refine ⟨fun z => ?_, fun j hj' z => ?_, fun _ z => ?_, fun j hj' z => ?_⟩
  · rw [putF_mem _ hq, putF_mem F hj, ← h.nms z]
    exact ⟨fun h => h.elim (fun h => h.elim id (fun h => absurd h.1 (by omega))) (fun h => absurd h.1 (by omega)), fun h => .inl (.inl h)⟩
  · rw [putF_mem _ hq, putF_mem F hj, ← h.lo j hj' z]
    exact ⟨fun h => h.elim (fun h => h.elim id (fun h => absurd h.1 (by omega))) (fun h => absurd h.1 (by omega)), fun h => .inl (.inl h)⟩
  · rw [putF_mem _ hq, putF_mem F hj, h.at_ (by omega) z, take_mem _ hk]
    constructor
    · rintro ((h | h) | h)
      · exact .inl h
      · exact .inr h.2
      · omega
    · rintro (h | h)
      · exact .inl (.inl h)
      · exact .inl (.inr ⟨rfl, h⟩)
  · rw [putF_mem _ hq, putF_mem F hj, h.bel j hj' z, hp, take_mem _ hk]
    constructor
    · rintro ((h | h) | h)
      · rcases h with h | h
        · exact .inl h
        · exact .inr ⟨h.1, .inl h.2⟩
      · omega
      · exact .inr ⟨by omega, .inr h.2⟩
    · rintro (h | ⟨h1, h2 | h2⟩)
      · exact .inl (.inl (.inl h))
      · exact .inl (.inl (.inr ⟨h1, h2⟩))
      · exact .inr ⟨by omega, h2⟩
theorem VdC.done (h : VdC t F (i + 1) i (i + 1) (nd t i).set.length) : VdC t F (i + 1) (i + 1) (i + 1) 0 := by
  refine ⟨h.nms, fun j hj z => ?_, fun h0 => absurd h0 (Nat.lt_irrefl _), fun j hj z => ?_⟩
  · by_cases e : j = i
    · subst e
      rw [h.at_ (by omega) z, List.take_length]
    · exact h.lo j (by omega) z
  · rw [h.bel j hj z, List.take_length]
    have : ∀ l : List Int, ¬ z ∈ l.take 0 := fun l => by simp
    constructor
    · rintro (⟨q, hq, h1, h2⟩ | ⟨h1, h2⟩)
      · exact .inl ⟨q, by omega, h1, h2⟩
      · exact .inl ⟨i, by omega, h1, h2⟩
    · rintro (⟨q, hq, h1, h2⟩ | ⟨h1, h2⟩)
      · by_cases e : q = i
        · subst e; exact .inr ⟨h1, h2⟩
        · exact .inl ⟨q, by omega, h1, h2⟩
      · exact absurd h2 (this _)
end
end Go.Proofs.Ythhknonaebnooaa
