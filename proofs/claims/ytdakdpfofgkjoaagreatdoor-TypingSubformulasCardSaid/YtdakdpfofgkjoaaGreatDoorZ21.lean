/-
  The builder's form, whole; Kernel and Not.
  Walks of Kernel and Not.
  Walks of the reference's One and Two, of pair.
-/
import Derived.Test.YtdakdpfofgkjoaaGreatDoorZ20
set_option linter.unusedVariables false
set_option linter.unusedSimpArgs false
namespace Go.Proofs.YtdakdpfofgkjoaaGreatDoor
open Go.RowKit Go.Shelf
attribute [local go_sem] cell_alloc_old buildF_o buildF_nvo buildF_0 buildF_op buildF_is

theorem bounded_any (bb : Nat) (f g : Fm) (hf : f.args = [g]) (ih : FormC bb g) : ∀ n, n ≤ 1000 → BoundC bb f g n
  | 0, _ => bounded_zero bb f g hf ih
  | n + 1, h => bounded_succ bb f g n hf ih (bounded_any bb f g hf ih n (by omega)) (by omega)
set_option maxRecDepth 100000 in
set_option maxHeartbeats 4000000 in
theorem form_bnd (bb : Nat) (f g : Fm) (hf : f.args = [g]) (h13 : f.op = 13 ∨ f.op = 14) (hbd : 0 ≤ f.bound ∧ f.bound ≤ 9) (ih : FormC bb g)
    {D : Dom} {b o : Nat} {A : Option Addr} {c : Nat} {neg : Bool} {left d : Int} {w : World}
    (h : HasF w D b o f A c) (hD : ∀ k, D k → k ≠ bb) (hB : BB w bb left false) (hl0 : 0 ≤ left) (hl2 : left ≤ 1000000) (hd1 : -1000000 ≤ d) (hd2 : d ≤ 1000000) :
    Calls Tryz.prog 51 #[.pointer (some ⟨bb, 0, none⟩), .pointer (some ⟨b, o, none⟩), .bool neg, .int .i64 d] w (FormSays bb (repF (opOut neg f.op) f.bound.toNat (kf neg g)) left (!fitsB (repF (opOut neg f.op) f.bound.toNat (kf neg g)) left d) w) := by
  have HH := hid h
  have HB := hid hB
  have hbl := lt_of_block hB
  clear hB h
  have e4 : (f.op == 4) = false := beq_false_of (by omega)
  have e3 : (f.op == 3) = false := beq_false_of (by omega)
  obtain ⟨n, hn⟩ : ∃ n, f.bound.toNat = n := ⟨_, rfl⟩
  have hn2 : f.bound = (n : Int) := by omega
  rw [hn]
  have HBD := hid (bounded_any bb f g hf ih n (by omega))
  go_enter Tryz.func51, Tryz.ntmps51
  go_upto_region 1 with (fail)
  refine wp_gen fun W hW => ?_
  have HW := hid (show Chg (fun x => x = bb) w W by rw [hW]; exact (Chg.refl _ w).alloc _)
  have HRES := hid (show OB W w.heap.size 0 ⟨#[]⟩ 0 0 none 0 0 by rw [hW]; exact at_new _ _ _ rfl)
  have hbw := HB.out.below (show Below w.heap.size w W by rw [hW]; go_grown)
  have hhw := HH.out.keep (HW.out.keeps fun k _ hk hv => hD k hk hv)
  have HSZ := hid (show W.heap.size = w.heap.size + 1 by rw [hW]; simp)
  have b1 := block_cell hbw (i := 1) rfl
  have HC := hid (HBD.out D b o A c neg false left d W hhw hD hbw (fun _ => hl0) (by omega) hl2 hd1 hd2)
  obtain ⟨q1, q2, c0, cc1, cc2, cc3, c4, q3⟩ := hhw
  rw [hn2] at cc3
  clear hW hbw q3 hn hn2 hbd cc1 cc2 c4
  by_cases hq : f.op = 13
  · have e13 : (f.op == 13) = true := by rw [hq]; rfl
    clear h13 hq
    go_wp2_with (first | (go_at_call 82; refine HC.out.mono ?_; intro e w5 hs5; have hv5 := hs5.val; obtain ⟨g5, A5, c5, rfl⟩ := hv5; have ho5 := HRES.out.chg hs5.1 (by omega); obtain ⟨r0, r1, r2, r3, r4, rl⟩ := ho5.cells; have p0 := ho5.free 0; have p1 := ho5.free 1; have p2 := ho5.free 2; have p3 := ho5.free 3; have p4 := ho5.free 4))
    refine bodyPost_gen fun WE hWE => ?_
    have hoE : OB WE w.heap.size g5.op g5.name g5.val g5.bound A5 g5.args.length c5 := by rw [hWE]; exact set5_OB ho5
    have hcE : Chg (fun x => x = w.heap.size) w5 WE := by rw [hWE]; exact set5_chg0 _ _ _ _ _ _ _
    obtain ⟨y0, y1, y2, y3, y4, yl⟩ := hoE.cells
    clear hWE r0 r1 r2 r3 r4 p0 p1 p2 p3 p4
    exact bodyPost_ret (v := .agg #[.int .i64 g5.op, .string g5.name, .int .i64 g5.val, .int .i64 g5.bound, .slice A5 g5.args.length c5]) (by simp [results, Tryz.results51, go_sem, y0, y1, y2, y3, y4]) rfl
      (FormSays.wrap hs5 HW.out (Nat.le_refl _) (by have := HSZ.out; omega) hbl hcE)
  · have e13 : (f.op == 13) = false := beq_false_of hq
    have e14 : (f.op == 14) = true := by rw [h13.resolve_left hq]; rfl
    clear h13 hq
    go_wp2_with (first | (go_at_call 82; refine HC.out.mono ?_; intro e w5 hs5; have hv5 := hs5.val; obtain ⟨g5, A5, c5, rfl⟩ := hv5; have ho5 := HRES.out.chg hs5.1 (by omega); obtain ⟨r0, r1, r2, r3, r4, rl⟩ := ho5.cells; have p0 := ho5.free 0; have p1 := ho5.free 1; have p2 := ho5.free 2; have p3 := ho5.free 3; have p4 := ho5.free 4))
    refine bodyPost_gen fun WE hWE => ?_
    have hoE : OB WE w.heap.size g5.op g5.name g5.val g5.bound A5 g5.args.length c5 := by rw [hWE]; exact set5_OB ho5
    have hcE : Chg (fun x => x = w.heap.size) w5 WE := by rw [hWE]; exact set5_chg0 _ _ _ _ _ _ _
    obtain ⟨y0, y1, y2, y3, y4, yl⟩ := hoE.cells
    clear hWE r0 r1 r2 r3 r4 p0 p1 p2 p3 p4
    exact bodyPost_ret (v := .agg #[.int .i64 g5.op, .string g5.name, .int .i64 g5.val, .int .i64 g5.bound, .slice A5 g5.args.length c5]) (by simp [results, Tryz.results51, go_sem, y0, y1, y2, y3, y4]) rfl
      (FormSays.wrap hs5 HW.out (Nat.le_refl _) (by have := HSZ.out; omega) hbl hcE)
/-- form, at every formula with the fields that its operators need. -/
theorem form_any (bb : Nat) (f : Fm) : ∀ ins, allI shpQ ins f → FormC bb f := by
  refine Fm.ind (P := fun f => ∀ ins, allI shpQ ins f → FormC bb f) ?_ f
  intro f ih ins hf D b o A c neg over left d w h hD hB hl0 hl1 hl2 hd1 hd2
  obtain ⟨hs, ha⟩ := allI_iff.1 hf
  have hs : shapedB f = true := hs
  have ih' : ∀ g, g ∈ f.args → FormC bb g := fun g hg => ih g hg _ (ha g hg)
  cases over
  rotate_left
  · rw [Bool.true_or]
    exact form_over bb _ hB hl1
  have hl0' := hl0 rfl
  rw [Bool.false_or]
  rcases op_parts hs with ⟨h3, hargs⟩ | ⟨h4, g, hargs⟩ | ⟨h13, g, hargs⟩ | hg
  · cases neg
    · exact form_gen bb f hs ih' (by omega) (by omega) (by omega) (fun _ => rfl) h hD hB hl0' hl2 hd1 hd2
    · have e : kf true f = opF 4 [isF f.name f.val] := by
        obtain ⟨o', n, v, bd, l⟩ := f
        simp only [Fm.op, Fm.args] at h3 hargs
        subst h3 hargs
        exact kf_isnot n v bd
      rw [e]
      exact form_isnot bb f h3 h hD hB hl0' hl2 hd1 hd2
  · have e : kf neg f = kf (!neg) g := by
      obtain ⟨o', n, v, bd, l⟩ := f
      simp only [Fm.op, Fm.args] at h4 hargs
      subst h4 hargs
      exact kf_not neg n v bd g
    rw [e]
    exact form_not bb f g hargs h4 (ih' g (by rw [hargs]; simp)) h hD hB hl0' hl2 hd1 hd2
  · have e : kf neg f = repF (opOut neg f.op) f.bound.toNat (kf neg g) := by
      obtain ⟨o', n, v, bd, l⟩ := f
      simp only [Fm.op, Fm.args, Fm.bound] at h13 hargs ⊢
      subst hargs
      exact kf_rep h13 neg n v bd g
    have hbd : 0 ≤ f.bound ∧ f.bound ≤ 9 := by
      have := shp_out hs
      refine ⟨this.2.2.2.2.2.1, ?_⟩
      have h2 := this.2.2.2.2.2.2.1
      rcases h13 with h | h <;> rw [h] at h2 <;> exact h2
    rw [e]
    exact form_bnd bb f g hargs h13 hbd (ih' g (by rw [hargs]; simp)) h hD hB hl0' hl2 hd1 hd2
  · have h3 : f.op ≠ 3 ∧ f.op ≠ 4 ∧ f.op ≠ 13 ∧ f.op ≠ 14 := by
      unfold genOp at hg
      simp at hg
      omega
    exact form_gen bb f hs ih' h3.2.1 h3.2.2.1 h3.2.2.2 (fun h => absurd h h3.1) h hD hB hl0' hl2 hd1 hd2
end Go.Proofs.YtdakdpfofgkjoaaGreatDoor
set_option linter.unusedVariables false
set_option linter.unusedSimpArgs false
namespace Go.Proofs.YtdakdpfofgkjoaaGreatDoor
open Go.RowKit Go.Shelf
attribute [local go_sem] cell_alloc_old buildF_0

def layB (f : Fm) : Bool := allB layQ f
/-- The kernel, and the error's number. -/
def kernZ (f : Fm) : Fm × Int := if validB f && layB f then (if fitsB (kf false f) 60 20 then (kf false f, 0) else (zeroF, 2)) else (zeroF, 30)
def notZ (f : Fm) : Fm := if looseB f && fitsB (kf true f) 400 60 then kf true f else zeroF
theorem build_bd (n : Int) (w : World) : (Instr.build 90 #[(0, .int .i64 n)]).run Tryz.prog w = .ok (.agg #[.int .i64 n, .bool false]) w := run_build w 90 _ _ (by kernel_rfl)
attribute [local go_sem] build_bd
/-- A new formula is handed back. -/
def NewF (f : Fm) (w : World) (v : Value) (w' : World) : Prop := Below w.heap.size w w' ∧ RdF3 w' (Nw w.heap.size w') v f
theorem NewF.zero {w w' : World} (h : Below w.heap.size w w') : NewF zeroF w (.agg #[.int .i64 0, .string ⟨#[]⟩, .int .i64 0, .int .i64 0, .slice none 0 0]) w' := ⟨h, none, 0, rfl, RdA.nil _ _ _ (by omega)⟩
set_option maxRecDepth 100000 in
set_option maxHeartbeats 4000000 in
theorem kernel_any {D : Dom} (f : Fm) (v : Value) (w : World) (h : RdF3 w D v f) (hg : GF w) (hk : GK w) :
    Calls Tryz.prog 29 #[v] w fun e w' => ∃ kv, e = .returned (.tuple #[kv, .int .i64 (kernZ f).2]) ∧ NewF (kernZ f).1 w kv w' := by
  obtain ⟨A, c, rfl, ha⟩ := h
  have HA := hid ha.old
  have HG := hid hg
  have HK := hid hk
  clear ha hg hk
  go_enter Tryz.func29, Tryz.ntmps29
  go_upto_region 1 with (fail)
  refine wp_gen fun W hW => ?_
  have HB := hid (show Below w.heap.size w W by rw [hW]; go_grown)
  have HE := hid (show Box5 W w.heap.size f A c by
    show W.heap[w.heap.size]? = _
    rw [hW, at_old _ _ _ (by simp)]; exact at_new _ _ _ rfl)
  have HR := hid (show OB W (w.heap.size + 1) 0 ⟨#[]⟩ 0 0 none 0 0 by rw [hW]; exact at_new _ _ _ (by simp))
  have HSZ := hid (show W.heap.size = w.heap.size + 2 by rw [hW]; simp)
  have HG1 := hid (HG.out.below HB.out HG.out.pos)
  have HK1 := hid (HK.out.below HB.out HK.out.pos)
  have HRD := hid (fun (V : World) (hb : Below W.heap.size W V) => (show RdF3 V (· < w.heap.size) (.agg #[.int .i64 f.op, .string f.name, .int .i64 f.val, .int .i64 f.bound, .slice A f.args.length c]) f from ⟨A, c, rfl, (HA.out.keep (Keeps.of_below HB.out fun _ h => h)).keep (Keeps.of_below hb fun k (hk : k < w.heap.size) => by have := HB.out.size; omega)⟩))
  obtain ⟨x0, x1, x2, x3, x4, xl⟩ := HE.out.cells
  clear hW
  have HV := hid (valid_any f _ W (HRD.out W (Below.refl _ _)) HG1.out HK1.out)
  cases hv : validB f
  · have HZ := hid (show kernZ f = (zeroF, 30) by unfold kernZ; rw [hv]; rfl)
    rw [hv] at HV
    clear hv
    go_wp2_with (first | (go_at_call 21; refine HV.out.mono ?_; rintro e V ⟨rfl, hbV⟩; have hr := HR.out.below hbV; obtain ⟨r0, r1, r2, r3, r4, rl⟩ := hr.cells; have p0 := hr.free 0; have p1 := hr.free 1; have p2 := hr.free 2; have p3 := hr.free 3; have p4 := hr.free 4))
    refine bodyPost_gen fun WE hWE => ?_
    have hoE : OB WE (w.heap.size + 1) 0 ⟨#[]⟩ 0 0 none 0 0 := by rw [hWE]; exact set5_OB hr
    have hbE : Below w.heap.size w WE := by rw [hWE]; exact (((((HB.out.trans (hbV.mono HB.out.size)).setCell (by simp) _).setCell (by simp) _).setCell (by simp) _).setCell (by simp) _).setCell (by simp) _
    obtain ⟨y0, y1, y2, y3, y4, yl⟩ := hoE.cells
    clear hWE r0 r1 r2 r3 r4 p0 p1 p2 p3 p4
    rw [HZ.out]
    exact bodyPost_ret (v := .tuple #[.agg #[.int .i64 0, .string ⟨#[]⟩, .int .i64 0, .int .i64 0, .slice none 0 0], .int .i64 30]) (by simp [results, Tryz.results29, go_sem, y0, y1, y2, y3, y4]) rfl ⟨_, rfl, NewF.zero hbE⟩
  · have HDP := hid (show f.depth ≤ 5000 ∧ allI shpQ false f by
      unfold validB at hv
      rw [Bool.and_eq_true] at hv
      have := (fits_true.1 hv.1).2
      exact ⟨by omega, hv.2⟩)
    rw [hv] at HV
    have HLA := hid (fun (V : World) (hb : Below W.heap.size W V) => layered_any f _ V (HRD.out V hb) (HG1.out.below hb HG1.out.pos) HDP.out.1)
    cases hl : layB f
    · have HZ := hid (show kernZ f = (zeroF, 30) by unfold kernZ; rw [hv, hl]; rfl)
      unfold layB at hl
      rw [hl] at HLA
      clear hv hl
      go_wp2_with (first | (go_at_call 21; refine HV.out.mono ?_; rintro e V ⟨rfl, hbV⟩; have he := HE.out.below hbV; obtain ⟨x0, x1, x2, x3, x4, xl⟩ := he.cells) | (go_at_call 23; refine (HLA.out V hbV).mono ?_; rintro e V2 ⟨rfl, hbV2⟩; have hr := (HR.out.below hbV).below hbV2; obtain ⟨r0, r1, r2, r3, r4, rl⟩ := hr.cells; have p0 := hr.free 0; have p1 := hr.free 1; have p2 := hr.free 2; have p3 := hr.free 3; have p4 := hr.free 4))
      refine bodyPost_gen fun WE hWE => ?_
      have hoE : OB WE (w.heap.size + 1) 0 ⟨#[]⟩ 0 0 none 0 0 := by rw [hWE]; exact set5_OB hr
      have hbE : Below w.heap.size w WE := by rw [hWE]; exact (((((HB.out.trans ((hbV.trans (hbV2.mono hbV.size)).mono HB.out.size)).setCell (by simp) _).setCell (by simp) _).setCell (by simp) _).setCell (by simp) _).setCell (by simp) _
      obtain ⟨y0, y1, y2, y3, y4, yl⟩ := hoE.cells
      clear hWE r0 r1 r2 r3 r4 p0 p1 p2 p3 p4
      rw [HZ.out]
      exact bodyPost_ret (v := .tuple #[.agg #[.int .i64 0, .string ⟨#[]⟩, .int .i64 0, .int .i64 0, .slice none 0 0], .int .i64 30]) (by simp [results, Tryz.results29, go_sem, y0, y1, y2, y3, y4]) rfl ⟨_, rfl, NewF.zero hbE⟩
    · have HFO := hid (fun bb => form_any bb f false HDP.out.2)
      have HZ0 := hid (show kernZ f = (if fitsB (kf false f) 60 20 then (kf false f, 0) else (zeroF, 2)) by unfold kernZ; rw [hv, hl]; rfl)
      unfold layB at hl
      rw [hl] at HLA
      clear hv hl
      go_upto_region 3 with (first | (go_at_call 21; refine HV.out.mono ?_; rintro e V ⟨rfl, hbV⟩; have he := HE.out.below hbV; obtain ⟨x0, x1, x2, x3, x4, xl⟩ := he.cells) | (go_at_call 23; refine (HLA.out V hbV).mono ?_; rintro e V2 ⟨rfl, hbV2⟩))
      have HBV := hid (HB.out.trans ((hbV.trans (hbV2.mono hbV.size)).mono HB.out.size))
      have HEV := hid ((HE.out.below hbV).below hbV2)
      have HRV := hid ((HR.out.below hbV).below hbV2)
      have HSV := hid (show w.heap.size + 2 ≤ V2.heap.size by have := hbV.size; have := hbV2.size; have := HSZ.out; omega)
      clear hbV hbV2 he x0 x1 x2 x3 x4 xl HV HLA
      go_upto_region 4 with (fail)
      refine wp_gen fun W4 hW4 => ?_
      obtain ⟨bb, hbb⟩ : ∃ bb, bb = V2.heap.size := ⟨_, rfl⟩
      rw [← hbb]
      have HB4 := hid (show BB W4 bb 60 false by rw [hW4]; exact at_new _ _ _ hbb)
      have HBW4 := hid (show Below w.heap.size w W4 by rw [hW4]; exact HBV.out.alloc HBV.out.size _)
      have HE4 := hid (show Box5 W4 w.heap.size f A c by rw [hW4]; exact HEV.out.below ((Below.refl _ _).alloc (Nat.le_refl _) _))
      have HR4 := hid (show OB W4 (w.heap.size + 1) 0 ⟨#[]⟩ 0 0 none 0 0 by rw [hW4]; exact HRV.out.alloc _)
      have hbw : w.heap.size + 2 ≤ bb := by rw [hbb]; exact HSV.out
      have hbl : bb < W4.heap.size := lt_of_block HB4.out
      have HFF := hid (Box5.hasF (D := fun k => k < w.heap.size + 1) HE4.out (Nat.lt_succ_self _) ((HA.out.keep (Keeps.of_below HBW4.out fun _ h => h)).mono fun k hk _ => Nat.lt_succ_of_lt hk))
      have HC := hid (HFO.out bb _ w.heap.size 0 A c false false 60 20 W4 HFF.out (fun k hk => by omega) HB4.out (by decide) (by decide) (by decide) (by decide) (by decide))
      clear hW4 hbb
      go_upto_region 5 with (first | (go_at_call 51; refine HC.out.mono ?_; intro e w5 hs5; obtain ⟨hc5, g5, A5, c5, l5, rfl, ha5, hb5, hl5, hm5, hov5⟩ := hs5.out; clear hs5))
      refine wp_gen fun W5 hW5 => ?_
      have hc5w : Chg (fun x => x = bb) W4 W5 := by rw [hW5]; exact hc5.alloc _
      have HC5 := hid hc5w
      have HB5 := hid (show BB W5 bb l5 (false || !fitsB (kf false f) 60 20) by rw [hW5]; exact (at_old _ _ _ (lt_of_block hb5)).trans hb5)
      have HA5 := hid (show RdA W5 (Nw W4.heap.size W5) g5.args A5 c5 from ha5.nw (V := fun _ => False) (by rw [hW5]; exact (Chg.refl _ w5).alloc _) fun _ h => h.elim)
      have HO5 := hid (show OB W5 w5.heap.size g5.op g5.name g5.val g5.bound A5 g5.args.length c5 by rw [hW5]; exact at_new _ _ _ rfl)
      have HR5 := hid (HR4.out.chg hc5w (by omega))
      have hbE5 : Below w.heap.size w W5 := (HBW4.out).trans (hc5w.below (B := w.heap.size) (fun x hx h => by omega) (by have := HBW4.out.size; omega))
      have HBE := hid hbE5
      have HOV := hid hov5
      obtain ⟨o5, ho5⟩ : ∃ o5, o5 = w5.heap.size := ⟨_, rfl⟩
      rw [← ho5] at HO5 ⊢
      have hl45 : W4.heap.size ≤ o5 := by rw [ho5]; exact hc5.size
      clear hW5 hc5 ha5 hb5 hov5 hc5w hbE5 ho5 hl5 hm5
      obtain ⟨r0, r1, r2, r3, r4, rl⟩ := HR5.out.cells
      have hr := HR5.out
      have p0 := hr.free 0
      have p1 := hr.free 1
      have p2 := hr.free 2
      have p3 := hr.free 3
      have p4 := hr.free 4
      have b1 := block_cell HB5.out (i := 1) rfl
      have bl := lt_of_block HB5.out
      cases hfit : fitsB (kf false f) 60 20
      · have HZ := hid (show kernZ f = (zeroF, 2) by rw [HZ0.out, hfit]; rfl)
        rw [hfit] at b1
        clear hfit
        go_wp2_with fail
        refine bodyPost_gen fun WE hWE => ?_
        have hoE : OB WE (w.heap.size + 1) 0 ⟨#[]⟩ 0 0 none 0 0 := by rw [hWE]; exact set5_OB hr
        have hbE : Below w.heap.size w WE := by rw [hWE]; exact (((((HBE.out).setCell (by simp) _).setCell (by simp) _).setCell (by simp) _).setCell (by simp) _).setCell (by simp) _
        obtain ⟨y0, y1, y2, y3, y4, yl⟩ := hoE.cells
        clear hWE r0 r1 r2 r3 r4 p0 p1 p2 p3 p4
        rw [HZ.out]
        exact bodyPost_ret (v := .tuple #[.agg #[.int .i64 0, .string ⟨#[]⟩, .int .i64 0, .int .i64 0, .slice none 0 0], .int .i64 2]) (by simp [results, Tryz.results29, go_sem, y0, y1, y2, y3, y4]) rfl ⟨_, rfl, NewF.zero hbE⟩
      · have HZ := hid (show kernZ f = (kf false f, 0) by rw [HZ0.out, hfit]; rfl)
        obtain ⟨e1, e2, e3⟩ := HOV.out (by rw [hfit]; rfl)
        have HE1 := hid e1
        clear e1 e2 e3
        rw [hfit] at b1
        clear hfit
        obtain ⟨z0, z1, z2, z3, z4, zl⟩ := HO5.out.cells
        go_wp2_with fail
        refine bodyPost_gen fun WE hWE => ?_
        have hoE : OB WE (w.heap.size + 1) g5.op g5.name g5.val g5.bound A5 g5.args.length c5 := by rw [hWE]; exact set5_OB hr
        have hcE : Chg (fun x => x = w.heap.size + 1) W5 WE := by rw [hWE]; exact set5_chg0 _ _ _ _ _ _ _
        have hbE : Below w.heap.size w WE := HBE.out.trans (hcE.below (B := w.heap.size) (fun x hx h => by omega) HBE.out.size)
        obtain ⟨y0, y1, y2, y3, y4, yl⟩ := hoE.cells
        clear hWE r0 r1 r2 r3 r4 p0 p1 p2 p3 p4
        rw [HZ.out]
        have hnew : NewF (kf false f) w (.agg #[.int .i64 g5.op, .string g5.name, .int .i64 g5.val, .int .i64 g5.bound, .slice A5 g5.args.length c5]) WE := by
          rw [← HE1.out]
          refine ⟨hbE, A5, c5, rfl, (HA5.out.nw hcE fun x h => by have : x = w.heap.size + 1 := h; have := HBW4.out.size; omega).base HBW4.out.size⟩
        exact bodyPost_ret (v := .tuple #[.agg #[.int .i64 g5.op, .string g5.name, .int .i64 g5.val, .int .i64 g5.bound, .slice A5 g5.args.length c5], .int .i64 0]) (by simp [results, Tryz.results29, go_sem, y0, y1, y2, y3, y4]) rfl ⟨_, rfl, hnew⟩
set_option maxRecDepth 100000 in
set_option maxHeartbeats 4000000 in
theorem not_any {D : Dom} (f : Fm) (v : Value) (w : World) (h : RdF3 w D v f) (hg : GF w) (hk : GK w) :
    Calls Tryz.prog 30 #[v] w fun e w' => ∃ kv, e = .returned kv ∧ NewF (notZ f) w kv w' := by
  obtain ⟨A, c, rfl, ha⟩ := h
  have HA := hid ha.old
  have HG := hid hg
  have HK := hid hk
  clear ha hg hk
  go_enter Tryz.func30, Tryz.ntmps30
  go_upto_region 1 with (fail)
  refine wp_gen fun W hW => ?_
  have HB := hid (show Below w.heap.size w W by rw [hW]; go_grown)
  have HE := hid (show Box5 W w.heap.size f A c by
    show W.heap[w.heap.size]? = _
    rw [hW, at_old _ _ _ (by simp)]; exact at_new _ _ _ rfl)
  have HR := hid (show OB W (w.heap.size + 1) 0 ⟨#[]⟩ 0 0 none 0 0 by rw [hW]; exact at_new _ _ _ (by simp))
  have HSZ := hid (show W.heap.size = w.heap.size + 2 by rw [hW]; simp)
  have HG1 := hid (HG.out.below HB.out HG.out.pos)
  have HK1 := hid (HK.out.below HB.out HK.out.pos)
  have HFF0 := hid (Box5.hasF (D := fun k => k < w.heap.size + 1) HE.out (Nat.lt_succ_self _) ((HA.out.keep (Keeps.of_below HB.out fun _ h => h)).mono fun k hk _ => Nat.lt_succ_of_lt hk))
  have HV := hid (loose_any f w.heap.size 0 A c W HFF0.out HG1.out HK1.out)
  clear hW
  cases hv : looseB f
  · have HZ := hid (show notZ f = zeroF by unfold notZ; rw [hv]; rfl)
    rw [hv] at HV
    clear hv
    go_wp2_with (first | (go_at_call 52; refine HV.out.mono ?_; rintro e V ⟨rfl, hbV⟩; have hr := HR.out.below hbV; obtain ⟨r0, r1, r2, r3, r4, rl⟩ := hr.cells; have p0 := hr.free 0; have p1 := hr.free 1; have p2 := hr.free 2; have p3 := hr.free 3; have p4 := hr.free 4))
    refine bodyPost_gen fun WE hWE => ?_
    have hoE : OB WE (w.heap.size + 1) 0 ⟨#[]⟩ 0 0 none 0 0 := by rw [hWE]; exact set5_OB hr
    have hbE : Below w.heap.size w WE := by rw [hWE]; exact (((((HB.out.trans (hbV.mono HB.out.size)).setCell (by simp) _).setCell (by simp) _).setCell (by simp) _).setCell (by simp) _).setCell (by simp) _
    obtain ⟨y0, y1, y2, y3, y4, yl⟩ := hoE.cells
    clear hWE r0 r1 r2 r3 r4 p0 p1 p2 p3 p4
    rw [HZ.out]
    exact bodyPost_ret (v := .agg #[.int .i64 0, .string ⟨#[]⟩, .int .i64 0, .int .i64 0, .slice none 0 0]) (by simp [results, Tryz.results30, go_sem, y0, y1, y2, y3, y4]) rfl ⟨_, rfl, NewF.zero hbE⟩
  · have HFO := hid (fun bb => form_any bb f false (bare_shaped (by unfold looseB at hv; rw [Bool.and_eq_true] at hv; exact hv.2)))
    have HZ0 := hid (show notZ f = (if fitsB (kf true f) 400 60 then kf true f else zeroF) by unfold notZ; rw [hv, Bool.true_and])
    rw [hv] at HV
    clear hv
    go_upto_region 3 with (first | (go_at_call 52; refine HV.out.mono ?_; rintro e V2 ⟨rfl, hbV⟩))
    have HBV := hid (HB.out.trans (hbV.mono HB.out.size))
    have HEV := hid (HE.out.below hbV)
    have HRV := hid (HR.out.below hbV)
    have HSV := hid (show w.heap.size + 2 ≤ V2.heap.size by have := hbV.size; have := HSZ.out; omega)
    clear hbV HV
    go_upto_region 4 with (fail)
    refine wp_gen fun W4 hW4 => ?_
    obtain ⟨bb, hbb⟩ : ∃ bb, bb = V2.heap.size := ⟨_, rfl⟩
    rw [← hbb]
    have HB4 := hid (show BB W4 bb 400 false by rw [hW4]; exact at_new _ _ _ hbb)
    have HBW4 := hid (show Below w.heap.size w W4 by rw [hW4]; exact HBV.out.alloc HBV.out.size _)
    have HE4 := hid (show Box5 W4 w.heap.size f A c by rw [hW4]; exact HEV.out.below ((Below.refl _ _).alloc (Nat.le_refl _) _))
    have HR4 := hid (show OB W4 (w.heap.size + 1) 0 ⟨#[]⟩ 0 0 none 0 0 by rw [hW4]; exact HRV.out.alloc _)
    have hbw : w.heap.size + 2 ≤ bb := by rw [hbb]; exact HSV.out
    have hbl : bb < W4.heap.size := lt_of_block HB4.out
    have HFF := hid (Box5.hasF (D := fun k => k < w.heap.size + 1) HE4.out (Nat.lt_succ_self _) ((HA.out.keep (Keeps.of_below HBW4.out fun _ h => h)).mono fun k hk _ => Nat.lt_succ_of_lt hk))
    have HC := hid (HFO.out bb _ w.heap.size 0 A c true false 400 60 W4 HFF.out (fun k hk => by omega) HB4.out (by decide) (by decide) (by decide) (by decide) (by decide))
    clear hW4 hbb
    go_upto_region 5 with (first | (go_at_call 51; refine HC.out.mono ?_; intro e w5 hs5; obtain ⟨hc5, g5, A5, c5, l5, rfl, ha5, hb5, hl5, hm5, hov5⟩ := hs5.out; clear hs5))
    refine wp_gen fun W5 hW5 => ?_
    have hc5w : Chg (fun x => x = bb) W4 W5 := by rw [hW5]; exact hc5.alloc _
    have HC5 := hid hc5w
    have HB5 := hid (show BB W5 bb l5 (false || !fitsB (kf true f) 400 60) by rw [hW5]; exact (at_old _ _ _ (lt_of_block hb5)).trans hb5)
    have HA5 := hid (show RdA W5 (Nw W4.heap.size W5) g5.args A5 c5 from ha5.nw (V := fun _ => False) (by rw [hW5]; exact (Chg.refl _ w5).alloc _) fun _ h => h.elim)
    have HO5 := hid (show OB W5 w5.heap.size g5.op g5.name g5.val g5.bound A5 g5.args.length c5 by rw [hW5]; exact at_new _ _ _ rfl)
    have HR5 := hid (HR4.out.chg hc5w (by omega))
    have hbE5 : Below w.heap.size w W5 := (HBW4.out).trans (hc5w.below (B := w.heap.size) (fun x hx h => by omega) (by have := HBW4.out.size; omega))
    have HBE := hid hbE5
    have HOV := hid hov5
    obtain ⟨o5, ho5⟩ : ∃ o5, o5 = w5.heap.size := ⟨_, rfl⟩
    rw [← ho5] at HO5 ⊢
    have hl45 : W4.heap.size ≤ o5 := by rw [ho5]; exact hc5.size
    clear hW5 hc5 ha5 hb5 hov5 hc5w hbE5 ho5 hl5 hm5
    obtain ⟨r0, r1, r2, r3, r4, rl⟩ := HR5.out.cells
    have hr := HR5.out
    have p0 := hr.free 0
    have p1 := hr.free 1
    have p2 := hr.free 2
    have p3 := hr.free 3
    have p4 := hr.free 4
    have b1 := block_cell HB5.out (i := 1) rfl
    have bl := lt_of_block HB5.out
    cases hfit : fitsB (kf true f) 400 60
    · have HZ := hid (show notZ f = zeroF by rw [HZ0.out, hfit]; rfl)
      rw [hfit] at b1
      clear hfit
      go_wp2_with fail
      refine bodyPost_gen fun WE hWE => ?_
      have hoE : OB WE (w.heap.size + 1) 0 ⟨#[]⟩ 0 0 none 0 0 := by rw [hWE]; exact set5_OB hr
      have hbE : Below w.heap.size w WE := by rw [hWE]; exact (((((HBE.out).setCell (by simp) _).setCell (by simp) _).setCell (by simp) _).setCell (by simp) _).setCell (by simp) _
      obtain ⟨y0, y1, y2, y3, y4, yl⟩ := hoE.cells
      clear hWE r0 r1 r2 r3 r4 p0 p1 p2 p3 p4
      rw [HZ.out]
      exact bodyPost_ret (v := .agg #[.int .i64 0, .string ⟨#[]⟩, .int .i64 0, .int .i64 0, .slice none 0 0]) (by simp [results, Tryz.results30, go_sem, y0, y1, y2, y3, y4]) rfl ⟨_, rfl, NewF.zero hbE⟩
    · have HZ := hid (show notZ f = kf true f by rw [HZ0.out, hfit]; rfl)
      obtain ⟨e1, e2, e3⟩ := HOV.out (by rw [hfit]; rfl)
      have HE1 := hid e1
      clear e1 e2 e3
      rw [hfit] at b1
      clear hfit
      obtain ⟨z0, z1, z2, z3, z4, zl⟩ := HO5.out.cells
      go_wp2_with fail
      refine bodyPost_gen fun WE hWE => ?_
      have hoE : OB WE (w.heap.size + 1) g5.op g5.name g5.val g5.bound A5 g5.args.length c5 := by rw [hWE]; exact set5_OB hr
      have hcE : Chg (fun x => x = w.heap.size + 1) W5 WE := by rw [hWE]; exact set5_chg0 _ _ _ _ _ _ _
      have hbE : Below w.heap.size w WE := HBE.out.trans (hcE.below (B := w.heap.size) (fun x hx h => by omega) HBE.out.size)
      obtain ⟨y0, y1, y2, y3, y4, yl⟩ := hoE.cells
      clear hWE r0 r1 r2 r3 r4 p0 p1 p2 p3 p4
      rw [HZ.out]
      have hnew : NewF (kf true f) w (.agg #[.int .i64 g5.op, .string g5.name, .int .i64 g5.val, .int .i64 g5.bound, .slice A5 g5.args.length c5]) WE := by
        rw [← HE1.out]
        refine ⟨hbE, A5, c5, rfl, (HA5.out.nw hcE fun x h => by have : x = w.heap.size + 1 := h; have := HBW4.out.size; omega).base HBW4.out.size⟩
      exact bodyPost_ret (v := .agg #[.int .i64 g5.op, .string g5.name, .int .i64 g5.val, .int .i64 g5.bound, .slice A5 g5.args.length c5]) (by simp [results, Tryz.results30, go_sem, y0, y1, y2, y3, y4]) rfl ⟨_, rfl, hnew⟩
end Go.Proofs.YtdakdpfofgkjoaaGreatDoor
set_option linter.unusedVariables false
set_option linter.unusedSimpArgs false
namespace Go.Proofs.YtdakdpfofgkjoaaGreatDoor
open Go.RowKit Go.Shelf
attribute [local go_sem] cell_alloc_old buildF_0

theorem RdF3.cells5 {w : World} {D : Dom} {f : Fm} {A : Option Addr} {c : Nat} (h : RdA w D f.args A c) : RdF3 w D (.agg #[.int .i64 f.op, .string f.name, .int .i64 f.val, .int .i64 f.bound, .slice A f.args.length c]) f := ⟨A, c, rfl, h⟩
/-- A row of formulas that has just been laid. -/
theorem RdA.litAny {W : World} {k n : Nat} {gs : List Fm} {sl : List (Option Addr × Nat)} {cs : Array Value} (hk : W.heap[k]? = some (.cells cs 28 (0, 0))) (hcs : cs.toList = cellsF gs sl) (hsl : sl.length = gs.length) (hn : n = gs.length) (hl : n ≤ 1000000)
    (ha : ∀ i, i < gs.length → RdA W AnyD (gs.getD i default).args (sl.getD i (none, 0)).1 (sl.getD i (none, 0)).2) : RdA W AnyD gs (some ⟨k, 0, none⟩) n := by
  subst hn
  refine .mk gs _ _ sl hsl ⟨⟨cellsF_len hsl, by omega, Nat.le_refl _, by omega⟩, fun _ => ⟨k, 0, rfl, trivial, lt_of_block hk, fun j u hu => ?_⟩⟩ ha
  rw [Nat.zero_add]
  refine block_cell hk ?_
  rw [← hcs] at hu
  simpa using hu
set_option maxRecDepth 100000 in
set_option maxHeartbeats 2000000 in
theorem rone_any (o : Int) (f : Fm) (v : Value) (w : World) (h : RdF3 w AnyD v f) :
    Calls Tryz.prog 87 #[.int .i64 o, v] w fun e w' => ∃ v', e = .returned v' ∧ RdF3 w' AnyD v' (opF o [f]) ∧ Below w.heap.size w w' := by
  obtain ⟨A, c, rfl, ha⟩ := h
  have HA := hid ha
  clear ha
  go_enter Tryz.func87, Tryz.ntmps87
  go_upto_region 1 with (fail)
  refine wp_gen fun W hW => ?_
  have HB := hid (show Below w.heap.size w W by rw [hW]; go_grown)
  have HE := hid (show Box5 W w.heap.size f A c by
    show W.heap[w.heap.size]? = _
    rw [hW, at_old _ _ _ (by simp)]; exact at_new _ _ _ rfl)
  have HR := hid (show OB W (w.heap.size + 1) 0 ⟨#[]⟩ 0 0 none 0 0 by rw [hW]; exact at_new _ _ _ (by simp))
  obtain ⟨x0, x1, x2, x3, x4, xl⟩ := HE.out.cells
  clear hW
  go_wp2_with (first | (go_at_call 88; refine (rop_any o _ 1 1 _).mono ?_; rintro e V ⟨rfl, hbV⟩; have hr := (HR.out.alloc (.cells #[.int .i64 f.op, .string f.name, .int .i64 f.val, .int .i64 f.bound, .slice A f.args.length c] 28)).below hbV; obtain ⟨r0, r1, r2, r3, r4, rl⟩ := hr.cells; have p0 := hr.free 0; have p1 := hr.free 1; have p2 := hr.free 2; have p3 := hr.free 3; have p4 := hr.free 4))
  refine bodyPost_gen fun WE hWE => ?_
  have hoE : OB WE (w.heap.size + 1) o ⟨#[]⟩ 0 0 (some ⟨W.heap.size, 0, none⟩) 1 1 := by rw [hWE]; exact set5_OB hr
  have hcE : Chg (fun x => x = w.heap.size + 1) V WE := by rw [hWE]; exact set5_chg0 _ _ _ _ _ _ _
  have hbW : Below W.heap.size W V := ((Below.refl _ _).alloc (Nat.le_refl _) _).trans (hbV.mono (by simp))
  have hnew : WE.heap[W.heap.size]? = some (.cells #[.int .i64 f.op, .string f.name, .int .i64 f.val, .int .i64 f.bound, .slice A f.args.length c] 28 (0, 0)) :=
    (hcE.block _ (Nat.lt_of_lt_of_le (by simp) hbV.size) (by have := lt_of_block HR.out; omega)).trans ((hbV.block _ (by simp)).trans (at_new _ _ _ rfl))
  have hbE : Below w.heap.size w WE := by
    have h1 := HB.out.trans (hbW.mono HB.out.size)
    exact h1.trans (hcE.below (B := w.heap.size) (fun x hx h => by omega) h1.size)
  have hrd : RdA WE AnyD [f] (some ⟨W.heap.size, 0, none⟩) 1 := RdA.litAny (sl := [(A, c)]) hnew rfl rfl rfl (by omega) fun i hi => by
    obtain rfl : i = 0 := by simpa using hi
    exact HA.out.any hbE
  obtain ⟨y0, y1, y2, y3, y4, yl⟩ := hoE.cells
  clear hWE r0 r1 r2 r3 r4 p0 p1 p2 p3 p4
  exact bodyPost_ret (v := .agg #[.int .i64 o, .string ⟨#[]⟩, .int .i64 0, .int .i64 0, .slice (some ⟨W.heap.size, 0, none⟩) 1 1]) (by simp [results, Tryz.results87, go_sem, y0, y1, y2, y3, y4]) rfl ⟨_, rfl, ⟨_, 1, rfl, hrd⟩, hbE⟩
set_option maxRecDepth 100000 in
set_option maxHeartbeats 2000000 in
theorem rtwo_any (o : Int) (f g : Fm) (v v2 : Value) (w : World) (h : RdF3 w AnyD v f) (h2 : RdF3 w AnyD v2 g) :
    Calls Tryz.prog 89 #[.int .i64 o, v, v2] w fun e w' => ∃ v', e = .returned v' ∧ RdF3 w' AnyD v' (opF o [f, g]) ∧ Below w.heap.size w w' := by
  obtain ⟨A, c, rfl, ha⟩ := h
  obtain ⟨A2, c2, rfl, ha2⟩ := h2
  have HA := hid ha
  have HA2 := hid ha2
  clear ha ha2
  go_enter Tryz.func89, Tryz.ntmps89
  go_upto_region 1 with (fail)
  refine wp_gen fun W hW => ?_
  have HB := hid (show Below w.heap.size w W by rw [hW]; go_grown)
  have HE := hid (show Box5 W w.heap.size f A c by
    show W.heap[w.heap.size]? = _
    rw [hW, at_old _ _ _ (by simp; omega), at_old _ _ _ (by simp)]; exact at_new _ _ _ rfl)
  have HE2 := hid (show Box5 W (w.heap.size + 1) g A2 c2 by
    show W.heap[w.heap.size + 1]? = _
    rw [hW, at_old _ _ _ (by simp)]; exact at_new _ _ _ (by simp))
  have HR := hid (show OB W (w.heap.size + 1 + 1) 0 ⟨#[]⟩ 0 0 none 0 0 by rw [hW]; exact at_new _ _ _ (by simp))
  obtain ⟨x0, x1, x2, x3, x4, xl⟩ := HE.out.cells
  obtain ⟨z0, z1, z2, z3, z4, zl⟩ := HE2.out.cells
  clear hW
  go_wp2_with (first | (go_at_call 88; refine (rop_any o _ 2 2 _).mono ?_; rintro e V ⟨rfl, hbV⟩; have hr := (HR.out.alloc (.cells #[.int .i64 f.op, .string f.name, .int .i64 f.val, .int .i64 f.bound, .slice A f.args.length c, .int .i64 g.op, .string g.name, .int .i64 g.val, .int .i64 g.bound, .slice A2 g.args.length c2] 28)).below hbV; obtain ⟨r0, r1, r2, r3, r4, rl⟩ := hr.cells; have p0 := hr.free 0; have p1 := hr.free 1; have p2 := hr.free 2; have p3 := hr.free 3; have p4 := hr.free 4))
  refine bodyPost_gen fun WE hWE => ?_
  have hoE : OB WE (w.heap.size + 1 + 1) o ⟨#[]⟩ 0 0 (some ⟨W.heap.size, 0, none⟩) 2 2 := by rw [hWE]; exact set5_OB hr
  have hcE : Chg (fun x => x = w.heap.size + 1 + 1) V WE := by rw [hWE]; exact set5_chg0 _ _ _ _ _ _ _
  have hbW : Below W.heap.size W V := ((Below.refl _ _).alloc (Nat.le_refl _) _).trans (hbV.mono (by simp))
  have hnew : WE.heap[W.heap.size]? = some (.cells #[.int .i64 f.op, .string f.name, .int .i64 f.val, .int .i64 f.bound, .slice A f.args.length c, .int .i64 g.op, .string g.name, .int .i64 g.val, .int .i64 g.bound, .slice A2 g.args.length c2] 28 (0, 0)) :=
    (hcE.block _ (Nat.lt_of_lt_of_le (by simp) hbV.size) (by have := lt_of_block HR.out; omega)).trans ((hbV.block _ (by simp)).trans (at_new _ _ _ rfl))
  have hbE : Below w.heap.size w WE := by
    have h1 := HB.out.trans (hbW.mono HB.out.size)
    exact h1.trans (hcE.below (B := w.heap.size) (fun x hx h => by omega) h1.size)
  have hrd : RdA WE AnyD [f, g] (some ⟨W.heap.size, 0, none⟩) 2 := RdA.litAny (sl := [(A, c), (A2, c2)]) hnew rfl rfl rfl (by omega) fun i hi => by
    match i, hi with
    | 0, _ => exact HA.out.any hbE
    | 1, _ => exact HA2.out.any hbE
    | i + 2, hi => exact absurd hi (by simp)
  obtain ⟨y0, y1, y2, y3, y4, yl⟩ := hoE.cells
  clear hWE r0 r1 r2 r3 r4 p0 p1 p2 p3 p4
  exact bodyPost_ret (v := .agg #[.int .i64 o, .string ⟨#[]⟩, .int .i64 0, .int .i64 0, .slice (some ⟨W.heap.size, 0, none⟩) 2 2]) (by simp [results, Tryz.results89, go_sem, y0, y1, y2, y3, y4]) rfl ⟨_, rfl, ⟨_, 2, rfl, hrd⟩, hbE⟩
end Go.Proofs.YtdakdpfofgkjoaaGreatDoor
