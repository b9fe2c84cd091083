/-
  Walk of slices.BinarySearchFunc with Compare.
  Walk of opposed.
  Leaving out repeated elements: plain; a row's elements; clear.
-/
import Derived.Test.YtdakdpfofgkjoaaGreatDoorZ22
set_option linter.unusedVariables false
set_option linter.unusedSimpArgs false
namespace Go.Proofs.YtdakdpfofgkjoaaGreatDoor
open Go.RowKit Go.Shelf
attribute [local go_sem] cell_alloc_old

theorem sort_le {gs : List Fm} (h : SortF gs) {i j : Nat} (hij : i ≤ j) (hj : j < gs.length) : (gs.getD i default).cmp (gs.getD j default) ≤ 0 := by
  rcases Nat.lt_or_ge i j with hlt | hge
  · have := List.pairwise_iff_getElem.1 h i j (by omega) hj hlt
    simpa [List.getD, hj, show i < gs.length by omega] using this
  · obtain rfl : i = j := by omega
    rw [cmp_self]; exact Int.le_refl _
set_option maxRecDepth 100000 in
set_option maxHeartbeats 4000000 in
theorem bsearch_any {D E : Dom} (gs : List Fm) (A : Option Addr) (c : Nat) (g : Fm) (v : Value) (w : World) (h : RdA w D gs A c) (h2 : RdF3 w E v g) (hs : ∀ f, f ∈ gs → f.size ≤ 1000000) (hlen : gs.length ≤ 1000000) (hcl : ∀ b, D b → Cl w b) (hsort : SortF gs) :
    Calls Tryz.prog 131 #[.slice A gs.length c, v, .func (.func 114) #[] #[]] w fun e w' => (∃ i : Int, e = .returned (.tuple #[.int .i64 i, .bool (gs.any fun x => x.cmp g == 0)])) ∧ Bel w w' := by
  obtain ⟨A2, c2, rfl, ha2⟩ := h2
  have HR := hid (h.mono (E := fun k => D k ∧ k < w.heap.size) fun k hk hl => ⟨hk, hl⟩)
  have HA2 := hid ha2.old
  have HS := hid hs
  have HCL := hid hcl
  have HSO := hid hsort
  have eg : ∀ args W, (callFunc 114 args).run Tryz.prog W = .ok (.enter 114 args) W := enters_of Tryz.func114 (by kernel_rfl) rfl
  clear h ha2 hs hcl hsort
  go_enter Tryz.func131, Tryz.ntmps131
  go_upto_region 1 with (fail)
  refine wp_gen fun W hW => ?_
  have HB := hid (show Bel w W by rw [hW]; exact (Bel.refl w).alloc _)
  have HE := hid (show Box5 W w.heap.size g A2 c2 by
    show W.heap[w.heap.size]? = _
    rw [hW]; exact at_new _ _ _ rfl)
  clear hW
  go_wp2_with fail
  go_loopw [9, 10] (fun q r wr => ∃ i j : Nat, i ≤ j ∧ j ≤ gs.length ∧ q = .int .i64 (i : Int) ∧ r = .int .i64 (j : Int) ∧ Bel W wr ∧ (∀ k, k < i → (gs.getD k default).cmp g < 0) ∧ (∀ k, j ≤ k → k < gs.length → 0 ≤ (gs.getD k default).cmp g)) (fun q r _ => (intOf r).toNat - (intOf q).toNat)
  case atStart => exact ⟨0, gs.length, Nat.zero_le _, Nat.le_refl _, rfl, rfl, Bel.refl _, fun k h => absurd h (Nat.not_lt_zero _), fun k h1 h2 => absurd h2 (by omega)⟩
  case round =>
    obtain ⟨i, j, hij, hjn, rfl, rfl, hb, hlo, hhi⟩ := hrel
    have HBR := hid (HB.out.trans hb)
    have HBL := hid hb
    have HLO := hid hlo
    have HHI := hid hhi
    have HEr := hid (HE.out.below hb.below)
    have HRr := hid (HR.out.keep (Keeps.of_below HBR.out.below fun _ h => h.2))
    have HAr := hid (HA2.out.keep (Keeps.of_below HBR.out.below fun _ h => h))
    clear hb hlo hhi
    by_cases hlt : i < j
    · have hii : (i : Int) < (j : Int) := by omega
      go_upto_region 5 with (fail)
      obtain ⟨m, hm⟩ : ∃ m : Nat, m = (i + j) / 2 := ⟨_, rfl⟩
      have hmz : ((i : Int) + (j : Int)) / 2 = (m : Int) := by omega
      have him : i ≤ m ∧ m < j := by omega
      have hml : m < gs.length := by omega
      obtain ⟨b1, o1, A', c', f, rfl, HX, hf⟩ := HRr.out.get hml
      have hfm : f ∈ gs := by
        have := HX.out
        rw [← this]
        exact getD_memF hml
      have HCELL : Hid (∀ W' : World, Bel wr W' → W'.cell? ⟨b1, o1 + m * 5, none⟩ = some (.int .i64 f.op) ∧ W'.cell? ⟨b1, o1 + m * 5 + 1, none⟩ = some (.string f.name) ∧ W'.cell? ⟨b1, o1 + m * 5 + 2, none⟩ = some (.int .i64 f.val) ∧ W'.cell? ⟨b1, o1 + m * 5 + 3, none⟩ = some (.int .i64 f.bound) ∧ W'.cell? ⟨b1, o1 + m * 5 + 4, none⟩ = some (.slice A' f.args.length c') ∧ W'.cell? ⟨w.heap.size, 0, none⟩ = some (.int .i64 g.op) ∧ W'.cell? ⟨w.heap.size, 1, none⟩ = some (.string g.name) ∧ W'.cell? ⟨w.heap.size, 2, none⟩ = some (.int .i64 g.val) ∧ W'.cell? ⟨w.heap.size, 3, none⟩ = some (.int .i64 g.bound) ∧ W'.cell? ⟨w.heap.size, 4, none⟩ = some (.slice A2 g.args.length c2)) := hid fun W' hb =>
        have hq := hf.keep (Keeps.of_below hb.below fun k (hk : D k ∧ k < w.heap.size) => Nat.lt_of_lt_of_le hk.2 HBR.out.below.size)
        have he := (HEr.out.below hb.below).cells
        ⟨hq.c0, hq.c1, hq.c2, hq.c3, hq.c4, he.1, he.2.1, he.2.2.1, he.2.2.2.1, he.2.2.2.2.1⟩
      have HCALL : Hid (∀ W' : World, Bel wr W' → Calls Tryz.prog 114 #[.agg #[.int .i64 f.op, .string f.name, .int .i64 f.val, .int .i64 f.bound, .slice A' f.args.length c'], .agg #[.int .i64 g.op, .string g.name, .int .i64 g.val, .int .i64 g.bound, .slice A2 g.args.length c2]] W' fun e w' => e = .returned (.int .i64 (f.cmp g)) ∧ Bel wr w') := hid fun W' hb => by
        refine (compare_any f g _ _ W' (RdF3.cells5 (hf.keep (Keeps.of_below hb.below fun k (hk : D k ∧ k < w.heap.size) => Nat.lt_of_lt_of_le hk.2 HBR.out.below.size)).args) (RdF3.cells5 (HAr.out.keep (Keeps.of_below hb.below fun k (hk : k < w.heap.size) => Nat.lt_of_lt_of_le hk HBR.out.below.size))) (HS.out f hfm) (.inl fun k hk => (HCL.out k hk.1).of_eq ((HBR.out.trans hb).below.block k hk.2))).mono ?_
        rintro e w' ⟨rfl, hb'⟩
        exact ⟨rfl, hb.trans hb'⟩
      have HI0 := hid (Bel.refl wr)
      have HI1 := hid (show Bel wr wr.drew from (Bel.refl wr).drewN 1)
      have HI2 := hid (show ∀ i, Bel wr (wr.drewN i) from fun i => (Bel.refl wr).drewN i)
      obtain ⟨p0, p1, p2, p3, p4, r0, r1, r2, r3, r4⟩ := HCELL.out wr (Bel.refl wr)
      have hbl := Nat.lt_of_lt_of_le hf.dom.2 HBR.out.below.size
      have hwl : w.heap.size < wr.heap.size := (HEr.out.cells).2.2.2.2.2
      rw [hmz]
      have hmi : (m : Int) < (gs.length : Int) := by omega
      clear hmz hm
      go_region_held3 (fun W' : World => W'.cell? ⟨b1, o1 + m * 5, none⟩ = some (.int .i64 f.op) ∧ W'.cell? ⟨b1, o1 + m * 5 + 1, none⟩ = some (.string f.name) ∧ W'.cell? ⟨b1, o1 + m * 5 + 2, none⟩ = some (.int .i64 f.val) ∧ W'.cell? ⟨b1, o1 + m * 5 + 3, none⟩ = some (.int .i64 f.bound) ∧ W'.cell? ⟨b1, o1 + m * 5 + 4, none⟩ = some (.slice A' f.args.length c') ∧ W'.cell? ⟨w.heap.size, 0, none⟩ = some (.int .i64 g.op) ∧ W'.cell? ⟨w.heap.size, 1, none⟩ = some (.string g.name) ∧ W'.cell? ⟨w.heap.size, 2, none⟩ = some (.int .i64 g.val) ∧ W'.cell? ⟨w.heap.size, 3, none⟩ = some (.int .i64 g.bound) ∧ W'.cell? ⟨w.heap.size, 4, none⟩ = some (.slice A2 g.args.length c2))
        (first | (with_reducible exact HCELL.out _ hI) | (go_keep; done))
        ((go_at_call 114; (with_reducible refine (HCALL.out _ (by first | exact HI0.out | exact HI1.out | exact HI2.out _)).mono ?_); rintro e W9 ⟨rfl, hI⟩))
      all_goals
        have HBW := hid (HBL.out.trans hI)
        have HXX := hid HX.out
        clear p0 p1 p2 p3 p4 r0 r1 r2 r3 r4 HX
        by_cases hc : f.cmp g < 0
        · have HC := hid hc
          go_wp2_with fail
          go_roundw
          case rel =>
            refine ⟨m + 1, j, by omega, hjn, by go_num, rfl, HBW.out, fun k hk => ?_, HHI.out⟩
            have := sort_le HSO.out (show k ≤ m by omega) hml
            rw [HXX.out] at this
            have h3 := HC.out
            exact (cmp_tri (gs.getD k default) f g).lt this (by omega) (.inr h3)
          case measure => simp [intOf]; omega
        · have HC := hid hc
          go_wp2_with fail
          go_roundw
          case rel =>
            refine ⟨i, m, by omega, by omega, rfl, rfl, HBW.out, HLO.out, fun k h1 h2 => ?_⟩
            have := sort_le HSO.out h1 h2
            rw [HXX.out] at this
            have h3 := HC.out
            have a1 := cmp_anti (gs.getD k default) f
            have a2 := cmp_anti (gs.getD k default) g
            have a3 := cmp_anti f g
            have a4 := cmp_anti f (gs.getD k default)
            have := (cmp_tri g f (gs.getD k default)).le (by omega) (by omega)
            omega
          case measure => simp [intOf]; omega
    · have hii : ¬ (i : Int) < (j : Int) := by omega
      obtain rfl : i = j := by omega
      by_cases hin : i < gs.length
      · have hini : (i : Int) < (gs.length : Int) := by omega
        obtain ⟨b1, o1, A', c', f, rfl, HX, hf⟩ := HRr.out.get hin
        have hfm : f ∈ gs := by
          have := HX.out
          rw [← this]
          exact getD_memF hin
        have HCELL : Hid (∀ W' : World, Bel wr W' → W'.cell? ⟨b1, o1 + i * 5, none⟩ = some (.int .i64 f.op) ∧ W'.cell? ⟨b1, o1 + i * 5 + 1, none⟩ = some (.string f.name) ∧ W'.cell? ⟨b1, o1 + i * 5 + 2, none⟩ = some (.int .i64 f.val) ∧ W'.cell? ⟨b1, o1 + i * 5 + 3, none⟩ = some (.int .i64 f.bound) ∧ W'.cell? ⟨b1, o1 + i * 5 + 4, none⟩ = some (.slice A' f.args.length c') ∧ W'.cell? ⟨w.heap.size, 0, none⟩ = some (.int .i64 g.op) ∧ W'.cell? ⟨w.heap.size, 1, none⟩ = some (.string g.name) ∧ W'.cell? ⟨w.heap.size, 2, none⟩ = some (.int .i64 g.val) ∧ W'.cell? ⟨w.heap.size, 3, none⟩ = some (.int .i64 g.bound) ∧ W'.cell? ⟨w.heap.size, 4, none⟩ = some (.slice A2 g.args.length c2)) := hid fun W' hb =>
          have hq := hf.keep (Keeps.of_below hb.below fun k (hk : D k ∧ k < w.heap.size) => Nat.lt_of_lt_of_le hk.2 HBR.out.below.size)
          have he := (HEr.out.below hb.below).cells
          ⟨hq.c0, hq.c1, hq.c2, hq.c3, hq.c4, he.1, he.2.1, he.2.2.1, he.2.2.2.1, he.2.2.2.2.1⟩
        have HCALL : Hid (∀ W' : World, Bel wr W' → Calls Tryz.prog 114 #[.agg #[.int .i64 f.op, .string f.name, .int .i64 f.val, .int .i64 f.bound, .slice A' f.args.length c'], .agg #[.int .i64 g.op, .string g.name, .int .i64 g.val, .int .i64 g.bound, .slice A2 g.args.length c2]] W' fun e w' => e = .returned (.int .i64 (f.cmp g)) ∧ Bel wr w') := hid fun W' hb => by
          refine (compare_any f g _ _ W' (RdF3.cells5 (hf.keep (Keeps.of_below hb.below fun k (hk : D k ∧ k < w.heap.size) => Nat.lt_of_lt_of_le hk.2 HBR.out.below.size)).args) (RdF3.cells5 (HAr.out.keep (Keeps.of_below hb.below fun k (hk : k < w.heap.size) => Nat.lt_of_lt_of_le hk HBR.out.below.size))) (HS.out f hfm) (.inl fun k hk => (HCL.out k hk.1).of_eq ((HBR.out.trans hb).below.block k hk.2))).mono ?_
          rintro e w' ⟨rfl, hb'⟩
          exact ⟨rfl, hb.trans hb'⟩
        have HI0 := hid (Bel.refl wr)
        have HI1 := hid (show Bel wr wr.drew from (Bel.refl wr).drewN 1)
        have HI2 := hid (show ∀ i, Bel wr (wr.drewN i) from fun i => (Bel.refl wr).drewN i)
        obtain ⟨p0, p1, p2, p3, p4, r0, r1, r2, r3, r4⟩ := HCELL.out wr (Bel.refl wr)
        have hbl := Nat.lt_of_lt_of_le hf.dom.2 HBR.out.below.size
        have hwl : w.heap.size < wr.heap.size := (HEr.out.cells).2.2.2.2.2
        go_upto_region 8 with (fail)
        go_region_held3 (fun W' : World => W'.cell? ⟨b1, o1 + i * 5, none⟩ = some (.int .i64 f.op) ∧ W'.cell? ⟨b1, o1 + i * 5 + 1, none⟩ = some (.string f.name) ∧ W'.cell? ⟨b1, o1 + i * 5 + 2, none⟩ = some (.int .i64 f.val) ∧ W'.cell? ⟨b1, o1 + i * 5 + 3, none⟩ = some (.int .i64 f.bound) ∧ W'.cell? ⟨b1, o1 + i * 5 + 4, none⟩ = some (.slice A' f.args.length c') ∧ W'.cell? ⟨w.heap.size, 0, none⟩ = some (.int .i64 g.op) ∧ W'.cell? ⟨w.heap.size, 1, none⟩ = some (.string g.name) ∧ W'.cell? ⟨w.heap.size, 2, none⟩ = some (.int .i64 g.val) ∧ W'.cell? ⟨w.heap.size, 3, none⟩ = some (.int .i64 g.bound) ∧ W'.cell? ⟨w.heap.size, 4, none⟩ = some (.slice A2 g.args.length c2))
          (first | (with_reducible exact HCELL.out _ hI) | (go_keep; done))
          ((go_at_call 114; (with_reducible refine (HCALL.out _ (by first | exact HI0.out | exact HI1.out | exact HI2.out _)).mono ?_); rintro e W9 ⟨rfl, hI⟩))
        all_goals
          have HBW := hid (HBR.out.trans hI)
          have HANY := hid (show (gs.any fun x => x.cmp g == 0) = (f.cmp g == 0) by
            cases hq : f.cmp g == 0
            · rw [List.any_eq_false]
              intro x hx hx0
              have hx1 : x.cmp g = 0 := by simpa using hx0
              obtain ⟨k, hk, rfl⟩ := List.getElem_of_mem hx
              have e : gs.getD k default = gs[k] := by simp [List.getD, hk]
              have hf0 : f.cmp g ≠ 0 := by simpa using hq
              rcases Nat.lt_trichotomy k i with h | h | h
              · have := HLO.out k h
                rw [e] at this; omega
              · subst h
                have := HX.out
                rw [e] at this
                rw [this] at hx1
                exact hf0 hx1
              · have h1 := sort_le HSO.out (Nat.le_of_lt h) hk
                rw [HX.out, e] at h1
                have h2 := HHI.out i (Nat.le_refl _) hin
                rw [HX.out] at h2
                have h3 := (cmp_tri f gs[k] g).le h1 (by omega)
                omega
            · rw [List.any_eq_true]
              exact ⟨f, hfm, hq⟩)
          clear p0 p1 p2 p3 p4 r0 r1 r2 r3 r4 HX
          go_wp2_with fail
          refine bodyPost_ret (v := .tuple #[.int .i64 (i : Int), .bool (f.cmp g == 0)]) (by simp [results, Tryz.results131, go_sem]) rfl ⟨⟨(i : Int), by rw [HANY.out]⟩, HBW.out⟩
      · have hini : ¬ (i : Int) < (gs.length : Int) := by omega
        have HANY := hid (show (gs.any fun x => x.cmp g == 0) = false by
          rw [List.any_eq_false]
          intro x hx hx0
          have hx1 : x.cmp g = 0 := by simpa using hx0
          obtain ⟨k, hk, rfl⟩ := List.getElem_of_mem hx
          have e : gs.getD k default = gs[k] := by simp [List.getD, hk]
          have := HLO.out k (by omega)
          rw [e] at this; omega)
        go_wp2_with fail
        go_quiet (fail)
        obtain ⟨V1, hV1, hdr1⟩ : ∃ V1, V1 = wr.drewN nq ∧ Drawn wr V1 := ⟨_, rfl, nq, rfl⟩
        rw [← hV1]
        clear hV1
        go_wp2_with fail
        refine bodyPost_ret (v := .tuple #[.int .i64 (i : Int), .bool false]) (by simp [results, Tryz.results131, go_sem]) rfl ⟨⟨(i : Int), by rw [HANY.out]⟩, HBR.out.trans (Bel.of_drawn hdr1)⟩
end Go.Proofs.YtdakdpfofgkjoaaGreatDoor
set_option linter.unusedVariables false
set_option linter.unusedSimpArgs false
namespace Go.Proofs.YtdakdpfofgkjoaaGreatDoor
open Go.RowKit Go.Shelf
attribute [local go_sem] cell_alloc_old

/-- Is a literal and its negation in the list? -/
def oppAt (gs : List Fm) (i : Nat) : Bool := decide ((gs.getD i default).op = 4) && gs.any fun z => z.cmp ((gs.getD i default).args.getD 0 default) == 0
def oppB (gs : List Fm) : Bool := !allN gs.length fun i => !oppAt gs i
theorem oppB_yes {gs : List Fm} {i : Nat} (hi : i < gs.length) (h : oppAt gs i = true) : oppB gs = true := by
  unfold oppB
  rw [allN_false hi (by rw [h]; rfl)]; rfl
theorem oppB_no {gs : List Fm} (h : ∀ i, i < gs.length → oppAt gs i = false) : oppB gs = false := by
  unfold oppB
  rw [allN_of fun j hj => by rw [h j hj]; rfl]; rfl
set_option maxRecDepth 100000 in
set_option maxHeartbeats 4000000 in
theorem opposed_any {D : Dom} (gs : List Fm) (A : Option Addr) (c : Nat) (w : World) (h : RdA w D gs A c) (hs : ∀ f, f ∈ gs → f.size ≤ 1000000) (hlen : gs.length ≤ 1000000) (hcl : ∀ b, D b → Cl w b) (hsort : SortF gs) (h4 : ∀ f, f ∈ gs → f.op = 4 → 0 < f.args.length) :
    Calls Tryz.prog 115 #[.slice A gs.length c, .func (.func 114) #[] #[], .func (.func 116) #[] #[]] w fun e w' => e = .returned (.bool (oppB gs)) ∧ Bel w w' := by
  have HR := hid (h.mono (E := fun k => D k ∧ k < w.heap.size) fun k hk hl => ⟨hk, hl⟩)
  have HS := hid hs
  have HCL := hid hcl
  have HSO := hid hsort
  have H4 := hid h4
  have eg : ∀ args W, (callFunc 116 args).run Tryz.prog W = .ok (.enter 116 args) W := enters_of Tryz.func116 (by kernel_rfl) rfl
  clear h hs hcl hsort h4
  go_enter Tryz.func115, Tryz.ntmps115
  go_wp2_with fail
  go_loopw [15] (fun q wr => ∃ i : Nat, i ≤ gs.length ∧ q = .int .i64 (i : Int) ∧ Bel w wr ∧ ∀ k, k < i → oppAt gs k = false) (fun q _ => gs.length - (intOf q).toNat)
  case atStart => exact ⟨0, Nat.zero_le _, rfl, Bel.refl _, fun k h => absurd h (Nat.not_lt_zero _)⟩
  case round =>
    obtain ⟨i, hi, rfl, hb, hall⟩ := hrel
    have HBR := hid hb
    have HALL := hid hall
    have HRr := hid (HR.out.keep (Keeps.of_below hb.below fun _ h => h.2))
    clear hb hall
    by_cases hlt : i < gs.length
    · have hii : (i : Int) < gs.length := by omega
      obtain ⟨b1, o1, A', c', f, rfl, HX, hf⟩ := HRr.out.get hlt
      have hfm : f ∈ gs := by
        have := HX.out
        rw [← this]
        exact getD_memF hlt
      have HF := hid hf
      have HXX := hid HX.out
      obtain ⟨q1, q2, p0, p1, p2, p3, p4, q3⟩ := hf
      have HDOM := hid q1
      clear q1 q3 HX
      go_upto_region 4 with (fail)
      refine wp_gen fun W4 hW4 => ?_
      have HB4 := hid (show Bel wr W4 by rw [hW4]; exact (Bel.refl wr).alloc _)
      have HE := hid (show OB W4 wr.heap.size f.op f.name f.val f.bound A' f.args.length c' by rw [hW4]; exact at_new _ _ _ rfl)
      have HF4 := hid (HF.out.keep (Keeps.of_below HB4.out.below fun k (hk : D k ∧ k < w.heap.size) => Nat.lt_of_lt_of_le hk.2 HBR.out.below.size))
      obtain ⟨x0, x1, x2, x3, x4, xl⟩ := HE.out.cells
      have HNEG := hid (negated_any f _ W4 (RdF3.cells5 HF4.out.args) (H4.out f hfm))
      clear hW4 p0 p1 p2 p3 p4 q2
      by_cases hq : f.op = 4
      · obtain ⟨nf, hnf⟩ : ∃ nf, nf = f.args.getD 0 default := ⟨_, rfl⟩
        have HNF := hid hnf
        have hpos := H4.out f hfm hq
        have HNEG' := hid (show Calls Tryz.prog 116 #[.agg #[.int .i64 f.op, .string f.name, .int .i64 f.val, .int .i64 f.bound, .slice A' f.args.length c']] W4 fun e w' => ∃ A9 c9, e = .returned (.tuple #[.agg #[.int .i64 nf.op, .string nf.name, .int .i64 nf.val, .int .i64 nf.bound, .slice A9 nf.args.length c9], .bool true]) ∧ Bel W4 w' ∧ RdA w' (fun k => (D k ∧ k < w.heap.size) ∧ k < W4.heap.size) nf.args A9 c9 by
          refine HNEG.out.mono ?_
          rintro e w' ⟨kv, rfl, hb', hrd⟩
          rw [if_pos hq, ← HNF.out] at hrd
          obtain ⟨A9, c9, rfl, ha9⟩ := hrd
          exact ⟨A9, c9, by rw [decide_eq_true hq], hb', ha9⟩)
        have HNS := hid (show nf.size ≤ 1000000 by
          have h1 := HS.out f hfm
          have := arg_size hpos
          rw [HNF.out]; omega)
        have HOPP := hid (show oppAt gs i = gs.any fun z => z.cmp nf == 0 by unfold oppAt; rw [HXX.out, decide_eq_true hq, ← HNF.out]; rfl)
        clear hq hnf HNEG
        go_upto_region 5 with (first | (go_at_call 116; refine HNEG'.out.mono ?_; rintro e W5 ⟨A9, c9, rfl, hb5, ha9⟩))
        refine wp_gen fun W6 hW6 => ?_
        have HB6 := hid (show Bel wr W6 by rw [hW6]; exact (HB4.out.trans hb5).alloc _)
        have HO6 := hid (show OB W6 W5.heap.size nf.op nf.name nf.val nf.bound A9 nf.args.length c9 by rw [hW6]; exact at_new _ _ _ rfl)
        have HA6 := hid (show RdA W6 (fun k => (D k ∧ k < w.heap.size) ∧ k < W4.heap.size) nf.args A9 c9 from ha9.keep (Keeps.of_below (B := W5.heap.size) (by rw [hW6]; exact (Below.refl _ _).alloc (Nat.le_refl _) _) fun k hk => Nat.lt_of_lt_of_le hk.2 hb5.below.size))
        have HRD6 := hid (HRr.out.keep (Keeps.of_below HB6.out.below fun k hk => Nat.lt_of_lt_of_le hk.2 HBR.out.below.size))
        have HBS := hid (bsearch_any gs (some ⟨b1, o1, none⟩) c nf _ W6 HRD6.out (RdF3.cells5 HA6.out) HS.out hlen (fun k hk => (HCL.out k hk.1).of_eq ((HBR.out.trans HB6.out).below.block k hk.2)) HSO.out)
        obtain ⟨o6, ho6⟩ : ∃ o6, o6 = W5.heap.size := ⟨_, rfl⟩
        rw [← ho6] at HO6 ⊢
        clear hW6 hb5 ha9 ho6 x0 x1 x2 x3 x4 xl
        obtain ⟨x0, x1, x2, x3, x4, xl⟩ := HO6.out.cells
        rw [← HOPP.out] at HBS
        cases hop : oppAt gs i
        · rw [hop] at HBS
          have HOP0 := hid hop
          clear hop
          go_wp2_with (first | (go_at_call 131; refine HBS.out.mono ?_; rintro e W7 ⟨⟨z, rfl⟩, hb7⟩))
          go_roundw
          case rel =>
            refine ⟨i + 1, by omega, by go_num, HBR.out.trans (HB6.out.trans hb7), fun k hk => ?_⟩
            rcases Nat.lt_succ_iff_lt_or_eq.1 hk with h | h
            · exact HALL.out k h
            · rw [h]; exact HOP0.out
          case measure => simp [intOf]; omega
        · rw [hop] at HBS
          have HOP1 := hid (oppB_yes hlt hop)
          clear hop
          go_wp2_with (first | (go_at_call 131; refine HBS.out.mono ?_; rintro e W7 ⟨⟨z, rfl⟩, hb7⟩))
          go_ret
          exact ⟨by rw [HOP1.out]; rfl, HBR.out.trans (HB6.out.trans hb7)⟩
      · have HNEG' := hid (show Calls Tryz.prog 116 #[.agg #[.int .i64 f.op, .string f.name, .int .i64 f.val, .int .i64 f.bound, .slice A' f.args.length c']] W4 fun e w' => ∃ A9 c9, e = .returned (.tuple #[.agg #[.int .i64 0, .string ⟨#[]⟩, .int .i64 0, .int .i64 0, .slice A9 0 c9], .bool false]) ∧ Bel W4 w' by
          refine HNEG.out.mono ?_
          rintro e w' ⟨kv, rfl, hb', hrd⟩
          rw [if_neg hq] at hrd
          obtain ⟨A9, c9, rfl, ha9⟩ := hrd
          exact ⟨A9, c9, by rw [decide_eq_false hq]; rfl, hb'⟩)
        have HOP0 := hid (show oppAt gs i = false by unfold oppAt; rw [HXX.out, decide_eq_false hq]; rfl)
        clear hq HNEG
        go_wp2_with (first | (go_at_call 116; refine HNEG'.out.mono ?_; rintro e W5 ⟨A9, c9, rfl, hb5⟩))
        go_roundw
        case rel =>
          refine ⟨i + 1, by omega, by go_num, HBR.out.trans ((HB4.out.trans hb5).alloc _), fun k hk => ?_⟩
          rcases Nat.lt_succ_iff_lt_or_eq.1 hk with h | h
          · exact HALL.out k h
          · rw [h]; exact HOP0.out
        case measure => simp [intOf]; omega
    · have hii : ¬ (i : Int) < gs.length := by omega
      have HOP := hid (oppB_no fun k hk => HALL.out k (by omega))
      go_wp2_with fail
      go_ret
      exact ⟨by rw [HOP.out]; rfl, HBR.out⟩
end Go.Proofs.YtdakdpfofgkjoaaGreatDoor
set_option linter.unusedVariables false
set_option linter.unusedSimpArgs false
namespace Go.Proofs.YtdakdpfofgkjoaaGreatDoor
open Go.RowKit Go.Shelf

/-- The first j elements, each once (of equal neighbours the first). -/
def compN (gs : List Fm) : Nat → List Fm
  | 0 => []
  | j + 1 => if 0 < j ∧ (gs.getD j default).cmp (gs.getD (j - 1) default) = 0 then compN gs j else compN gs j ++ [gs.getD j default]
def dedF (gs : List Fm) : List Fm := compN gs gs.length
theorem compN_len (gs : List Fm) : ∀ j, (compN gs j).length ≤ j
  | 0 => Nat.le_refl _
  | j + 1 => by
    have := compN_len gs j
    simp only [compN]
    split
    · omega
    · rw [List.length_append]; simp; omega
theorem compN_same (gs : List Fm) : ∀ i, i ≤ gs.length → (∀ k, 0 < k → k < i → (gs.getD k default).cmp (gs.getD (k - 1) default) ≠ 0) → compN gs i = gs.take i
  | 0, _, _ => rfl
  | i + 1, h, hne => by
    have ih := compN_same gs i (by omega) fun k h1 h2 => hne k h1 (by omega)
    simp only [compN]
    rw [if_neg (fun hh => hne i hh.1 (by omega) hh.2), ih, take_succ_getD gs default (by omega)]
theorem compN_eq {gs : List Fm} {j : Nat} (h0 : 0 < j) (h : (gs.getD j default).cmp (gs.getD (j - 1) default) = 0) : compN gs (j + 1) = compN gs j := by
  simp only [compN]
  rw [if_pos ⟨h0, h⟩]
theorem compN_ne {gs : List Fm} {j : Nat} (h : (gs.getD j default).cmp (gs.getD (j - 1) default) ≠ 0) : compN gs (j + 1) = compN gs j ++ [gs.getD j default] := by
  simp only [compN]
  rw [if_neg fun hh => h hh.2]
theorem dedF_short {gs : List Fm} (h : gs.length < 2) : dedF gs = gs := by
  unfold dedF
  rw [compN_same gs _ (Nat.le_refl _) fun k h1 h2 => by omega, List.take_length]
theorem compN_mem (gs : List Fm) : ∀ j, j ≤ gs.length → ∀ x, x ∈ compN gs j ↔ x ∈ gs.take j
  | 0, _, x => by simp [compN]
  | j + 1, h, x => by
    have ih := compN_mem gs j (by omega) x
    rw [take_succ_getD gs default (by omega), List.mem_append, ← ih]
    by_cases hc : 0 < j ∧ (gs.getD j default).cmp (gs.getD (j - 1) default) = 0
    · rw [compN_eq hc.1 hc.2]
      constructor
      · exact .inl
      · rintro (h | h)
        · exact h
        · rw [List.mem_singleton] at h
          rw [h, cmp_zero.1 hc.2]
          have : gs.getD (j - 1) default ∈ gs.take j := by
            have e : (gs.take j).getD (j - 1) default = gs.getD (j - 1) default := getD_take gs default (by omega)
            rw [← e]
            exact getD_memF (by rw [List.length_take]; omega)
          exact (compN_mem gs j (by omega) _).2 this
    · simp only [compN]
      rw [if_neg hc, List.mem_append]
theorem dedF_mem (gs : List Fm) (x : Fm) : x ∈ dedF gs ↔ x ∈ gs := by
  unfold dedF
  rw [compN_mem gs _ (Nat.le_refl _), List.take_length]
/-- Strictly sorted. -/
def AscF (gs : List Fm) : Prop := gs.Pairwise fun a b => a.cmp b < 0
theorem compN_asc {gs : List Fm} (h : SortF gs) : ∀ j, j ≤ gs.length → AscF (compN gs j)
  | 0, _ => List.Pairwise.nil
  | j + 1, hj => by
    have ih := compN_asc h j (by omega)
    simp only [compN]
    by_cases hc : 0 < j ∧ (gs.getD j default).cmp (gs.getD (j - 1) default) = 0
    · rw [if_pos hc]; exact ih
    · rw [if_neg hc]
      unfold AscF at ih ⊢
      rw [List.pairwise_append]
      refine ⟨ih, by simp, fun a ha b hb => ?_⟩
      rw [List.mem_singleton] at hb
      subst hb
      have hm := (compN_mem gs j (by omega) a).1 ha
      obtain ⟨k, hk, rfl⟩ := List.getElem_of_mem hm
      have hkj : k < j := by rw [List.length_take] at hk; omega
      have e : (gs.take j)[k] = gs.getD k default := by simp [List.getD, show k < gs.length by omega]
      rw [e]
      have h1 := sort_le h (show k ≤ j - 1 by omega) (show j - 1 < gs.length by omega)
      have h2 := sort_le h (show j - 1 ≤ j by omega) (show j < gs.length by omega)
      have h3 : (gs.getD (j - 1) default).cmp (gs.getD j default) ≠ 0 := fun e => hc ⟨by omega, by rw [cmp_anti, e]; rfl⟩
      exact (cmp_tri (gs.getD k default) (gs.getD (j - 1) default) (gs.getD j default)).lt h1 h2 (.inr (by omega))
theorem dedF_asc {gs : List Fm} (h : SortF gs) : AscF (dedF gs) := compN_asc h _ (Nat.le_refl _)
theorem AscF.sort {gs : List Fm} (h : AscF gs) : SortF gs := h.imp fun {a b} hab => by omega
/-- Two strictly sorted lists with the same elements are equal. -/
theorem AscF.ext : ∀ {l m : List Fm}, AscF l → AscF m → (∀ x, x ∈ l ↔ x ∈ m) → l = m
  | [], [], _, _, _ => rfl
  | [], b :: m, _, _, h => absurd ((h b).2 (by simp)) (by simp)
  | a :: l, [], _, _, h => absurd ((h a).1 (by simp)) (by simp)
  | a :: l, b :: m, h1, h2, h => by
    rw [AscF, List.pairwise_cons] at h1 h2
    have irr : ∀ x : Fm, ¬ x.cmp x < 0 := fun x hx => by rw [cmp_self] at hx; omega
    have hab : a = b := by
      rcases List.mem_cons.1 ((h a).1 (by simp)) with e | e
      · exact e
      · rcases List.mem_cons.1 ((h b).2 (by simp)) with e' | e'
        · exact e'.symm
        · have h3 := (cmp_tri b a b).lt (by have := h2.1 a e; omega) (by have := h1.1 b e'; omega) (.inl (h2.1 a e))
          exact absurd h3 (irr b)
    subst hab
    congr 1
    refine AscF.ext h1.2 h2.2 fun x => ⟨fun hx => ?_, fun hx => ?_⟩
    · rcases List.mem_cons.1 ((h x).1 (by simp [hx])) with e | e
      · have := h1.1 x hx
        rw [e] at this; exact absurd this (irr a)
      · exact e
    · rcases List.mem_cons.1 ((h x).2 (by simp [hx])) with e | e
      · have := h2.1 x hx
        rw [e] at this; exact absurd this (irr a)
      · exact e
/-- An element of a row. -/
theorem FRow.get {w : World} {base g c : Nat} {gs : List Fm} {sl : List (Option Addr × Nat)} (h : FRow w base (some ⟨g, 0, none⟩) c gs sl) {i : Nat} (hi : i < gs.length) : ∃ A' c' f, Hid (gs.getD i default = f) ∧ sl.getD i (none, 0) = (A', c') ∧
    w.cell? ⟨g, i * 5, none⟩ = some (.int .i64 f.op) ∧ w.cell? ⟨g, i * 5 + 1, none⟩ = some (.string f.name) ∧ w.cell? ⟨g, i * 5 + 2, none⟩ = some (.int .i64 f.val) ∧ w.cell? ⟨g, i * 5 + 3, none⟩ = some (.int .i64 f.bound) ∧ w.cell? ⟨g, i * 5 + 4, none⟩ = some (.slice A' f.args.length c') ∧
    w.frozen? ⟨g, i * 5, none⟩ = false ∧ w.frozen? ⟨g, i * 5 + 1, none⟩ = false ∧ w.frozen? ⟨g, i * 5 + 2, none⟩ = false ∧ w.frozen? ⟨g, i * 5 + 3, none⟩ = false ∧ w.frozen? ⟨g, i * 5 + 4, none⟩ = false ∧ g < w.heap.size ∧
    RdA w (fun k => Nw base w k ∧ k ≠ g) f.args A' c' := by
  have key : ∀ j u, j < 5 → (fcells (gs.getD i default) (sl.getD i (none, 0)))[j]? = some u → w.cell? ⟨g, i * 5 + j, none⟩ = some u ∧ w.frozen? ⟨g, i * 5 + j, none⟩ = false ∧ g < w.heap.size := fun j u hj hu => own_cell h.own (by rw [cellsF_at h.len hi hj]; exact hu)
  have k0 := key 0 _ (by omega) rfl
  have k1 := key 1 _ (by omega) rfl
  have k2 := key 2 _ (by omega) rfl
  have k3 := key 3 _ (by omega) rfl
  have k4 := key 4 _ (by omega) rfl
  exact ⟨(sl.getD i (none, 0)).1, (sl.getD i (none, 0)).2, gs.getD i default, hid rfl, rfl, k0.1, k1.1, k2.1, k3.1, k4.1, k0.2.1, k1.2.1, k2.2.1, k3.2.1, k4.2.1, k0.2.2,
    (h.arg i hi).mono fun k hk _ => ⟨hk.1, fun e => hk.2 (by rw [e]; rfl)⟩⟩
/-- The first n elements of a row. -/
theorem FRow.take {w : World} {base g c n : Nat} {gs : List Fm} {sl : List (Option Addr × Nat)} (h : FRow w base (some ⟨g, 0, none⟩) c gs sl) (hn : n ≤ gs.length) : FRow w base (some ⟨g, 0, none⟩) c (gs.take n) (sl.take n) := by
  have hl : (gs.take n).length = n := by rw [List.length_take]; omega
  refine ⟨?_, by rw [List.length_take, List.length_take, h.len], fun i hi => ?_⟩
  · have hcells : cellsF (gs.take n) (sl.take n) = (cellsF gs sl).take (n * 5) := by
      have e1 : gs = gs.take n ++ gs.drop n := (List.take_append_drop n gs).symm
      have e2 : sl = sl.take n ++ sl.drop n := (List.take_append_drop n sl).symm
      have e3 : (sl.take n).length = (gs.take n).length := by rw [List.length_take, List.length_take, h.len]
      conv => rhs; rw [e1, e2]
      rw [cellsF_append e3, List.take_left' (by rw [cellsF_len e3, hl])]
    rw [hl, hcells]
    rcases h.own.2 with ⟨h0, _⟩ | ⟨g', cap, cur, hv, hb, hg, q1, q2, q3, q4⟩
    · cases h0
    · injection hv with e1 e2 e3
      injection e1 with e1
      injection e1 with e1
      subst e1 e3
      refine ⟨by rw [List.length_take, h.own.1]; omega, .inr ⟨g, c, cur, rfl, hb, hg, by omega, q2, q3, ?_⟩⟩
      rw [← q4, List.take_take]
      congr 1
      omega
  · rw [hl] at hi
    rw [getD_take gs default hi, getD_take sl (none, 0) hi]
    exact (h.arg i (by omega)).mono fun k hk _ => ⟨hk.1, fun e => hk.2 (by injection e with e; rw [← e]; rfl)⟩
end Go.Proofs.YtdakdpfofgkjoaaGreatDoor
