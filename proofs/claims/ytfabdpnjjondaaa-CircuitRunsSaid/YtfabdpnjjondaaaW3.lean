/-
  Walk of the law CircuitRuns.
-/
import Derived.Test.YtfabdpnjjondaaaW1
import Derived.Test.YtfabdpnjjondaaaP7
set_option linter.unusedVariables false
set_option linter.unusedSimpArgs false
namespace Go.Proofs.Ytfabdpnjjondaaa
open Go.RowKit
attribute [local go_sem] cell_alloc_old

theorem RdI.some_or {w : World} {D : Dom} {A : Option Addr} {c : Nat} {zs : List Int} (h : RdI w D A c zs) : zs.length = 0 ∨ ∃ b o, A = some ⟨b, o, none⟩ := by
  rcases Nat.eq_zero_or_pos zs.length with h0 | h0
  · exact .inl h0
  · obtain ⟨b, o, e, _⟩ := h.ptr h0
    exact .inr ⟨b, o, e⟩

theorem RdI.single {w : World} {D : Dom} {b o d : Nat} {x : Int} (hb : D b) (hc : w.cell? ⟨b, o, none⟩ = some (.int .i64 x)) (h1 : 1 ≤ d) (h2 : d ≤ 9223372036854775807) : RdI w D (some ⟨b, o, none⟩) d [x] := by
  refine ⟨⟨by simp, by simp, by simpa using h1, h2⟩, fun _ => ⟨b, o, rfl, hb, World.block_lt_of_cell? w _ hc, fun j u hu => ?_⟩⟩
  cases j with
  | zero => simp at hu; subst hu; exact hc
  | succ j => simp at hu
theorem cells5_below {w' w'' : World} {b : Nat} {x0 x1 x2 x3 x4 : Value} {p : Addr} (h : w'.cell? ⟨b, 0, none⟩ = some x0 ∧ w'.cell? ⟨b, 1, none⟩ = some x1 ∧ w'.cell? ⟨b, 2, none⟩ = some x2 ∧ w'.cell? ⟨b, 3, none⟩ = some x3 ∧ w'.cell? p = some x4) (hb : Below w'.heap.size w' w'') :
    w''.cell? ⟨b, 0, none⟩ = some x0 ∧ w''.cell? ⟨b, 1, none⟩ = some x1 ∧ w''.cell? ⟨b, 2, none⟩ = some x2 ∧ w''.cell? ⟨b, 3, none⟩ = some x3 ∧ w''.cell? p = some x4 := by
  obtain ⟨h2, h3, h4, h5, h6⟩ := h
  have key : ∀ p u, w'.cell? p = some u → w''.cell? p = some u := fun p u h => (hb.cell (p := p) (World.block_lt_of_cell? w' _ h)).trans h
  exact ⟨key _ _ h2, key _ _ h3, key _ _ h4, key _ _ h5, key _ _ h6⟩

set_option maxRecDepth 100000 in
set_option maxHeartbeats 4000000 in
theorem law3_any {D E : Dom} (w : World) (v : Value) (c : Cir) (A : Option Addr) (ca : Nat) (ins : List Int) (cut : Int) (h : RdC w D v c) (hi : RdI w E A ca ins) (k0 : 0 ≤ cut) (k1 : cut ≤ 255) :
    Calls Try.prog 5 #[v, .slice A ins.length ca, .int .u8 cut] w fun e w' => e = .returned (.bool true) ∧ Below w.heap.size w w' := by
  have HV := hid h.old
  have HI := hid hi.old
  have hni := hi.len.1
  have hnc := hi.len.2
  obtain ⟨Ag, cg, Al, cl, Ao, co, rfl, hg, hl, ho⟩ := h
  clear hg hl ho hi
  go_enter Try.func5, Try.ntmps5
  go_wp2_with fail
  refine (head_any _).mono ?_
  rintro e w1 ⟨rfl, hb1⟩
  have hs : At4 w w.heap.size (.int .i64 c.ib) (.slice Ag c.gates.length cg) (.slice Al c.lat.length cl) (.slice Ao c.outs.length co) w1 := by
    refine At4.below (w' := w.alloc (.cells #[.int .i64 c.ib, .slice Ag c.gates.length cg, .slice Al c.lat.length cl, .slice Ao c.outs.length co] 25)) ⟨by go_grown, ?_, ?_, ?_, ?_⟩ hb1
    all_goals exact cell_new _ _ _ _ _ _ rfl rfl
  have HS := hid hs
  obtain ⟨hb0, x0, x1, x2, x3⟩ := hs
  clear hb1 hb0
  go_wp2_with fail
  refine (few_any _ c w1 (HV.out.keep (Keeps.of_below HS.out.1 (fun _ h => h)))).mono ?_
  rintro e w2 ⟨rfl, hb⟩
  have hs := HS.out.below hb
  have HS := hid hs
  obtain ⟨hb0, x0, x1, x2, x3⟩ := hs
  clear hb hb0
  obtain ⟨f, hf⟩ : ∃ f, fewB c = f := ⟨_, rfl⟩
  rw [hf]
  clear hf
  cases f
  · go_wp2_with fail
    go_ret
    exact ⟨rfl, HS.out.1⟩
  by_cases hl20 : 20 < ins.length
  · have hd : decide (20 < ins.length) = true := decide_eq_true hl20
    have hd2 : decide ((20 : Int) < (ins.length : Int)) = true := decide_eq_true (by omega)
    go_wp2_with fail
    go_ret
    exact ⟨rfl, HS.out.1⟩
  have hd : decide (20 < ins.length) = false := decide_eq_false hl20
  have hd2 : decide ((20 : Int) < (ins.length : Int)) = false := decide_eq_false (by omega)
  have hmil : ins.length ≤ 1000000 := by omega
  have HMIL := hid hmil
  clear hmil
  go_wp2_with fail
  refine (run_any _ c A ca ins w2 (HV.out.keep (Keeps.of_below HS.out.1 (fun _ h => h))) (HI.out.keep (Keeps.of_below HS.out.1 (fun _ h => h))) HMIL.out).mono ?_
  rintro e w3 ⟨B, cb, rfl, hb, hr⟩
  have hs := HS.out.below hb
  have HS := hid hs
  have HR := hid hr.old
  obtain ⟨hb0, x0, x1, x2, x3⟩ := hs
  have hrl := hr.len.1
  clear hb hb0 hr
  obtain ⟨out, hout⟩ : ∃ o, runZ c ins = o := ⟨_, rfl⟩
  have hlen := runZ_len c ins
  rw [hout] at hlen hrl HR ⊢
  have HOUT := hid hout
  clear hout
  by_cases hne : out.length = ins.length
  · have e1 : ((out.length : Int) != (ins.length : Int)) = false := by simp [hne]
    have HNE := hid hne
    clear hne hlen
    obtain ⟨K, hK⟩ : ∃ K : Nat, K = cut.toNat % (ins.length + 1) := ⟨_, rfl⟩
    have hKl : K ≤ ins.length := by have := Nat.mod_lt cut.toNat (show 0 < ins.length + 1 by omega); omega
    have hKo : K ≤ out.length := by rw [HNE.out]; exact hKl
    have hKe : cut % ((ins.length : Int) + 1) = (K : Int) := by
      rw [hK]
      obtain ⟨n, rfl⟩ := Int.eq_ofNat_of_zero_le k0
      simp
    have HKE := hid hKe
    clear hK hKe
    go_upto_region 8 with (fail)
    rw [HKE.out]
    have hnc2 := HR.out.len.2
    have hKca : K ≤ ca := by omega
    have hKcb : K ≤ cb := by omega
    have q1 : (K : Int) ≤ ca := by omega
    have q2 : (K : Int) ≤ cb := by omega
    have HVD := hid (HV.out.keep (Keeps.of_below HS.out.1.drew (fun _ h => h))).old
    have HID := hid (HI.out.keep (Keeps.of_below HS.out.1.drew (fun _ h => h))).old
    have hkr : Keeps (fun b => b < w3.heap.size) w3 w3.drew := (Keeps.refl _ w3).drew
    have HRD := hid (HR.out.keep hkr)
    have T1 : Hid (∀ W, RdI W (· < w3.drew.heap.size) A ca ins → RdI W (· < w3.drew.heap.size) A ca (ins.take K)) := hid fun W h => h.take hKl
    have hTL : (ins.take K).length = K := by rw [List.length_take]; omega
    have hTO : (out.take K).length = K := by rw [List.length_take]; omega
    have hrun : ∀ W v', RdC W (· < w3.drew.heap.size) v' c → RdI W (· < w3.drew.heap.size) A ca ins → Calls Try.prog 16 #[v', .slice A K ca] W fun e w' =>
        ∃ A' c', e = .returned (.slice A' K c') ∧ Below W.heap.size W w' ∧ RdI w' (fun b => W.heap.size ≤ b) A' c' (out.take K) := by
      intro W v' h1 h2
      have := run_any v' c A ca (ins.take K) W h1 (h2.take hKl) (by omega)
      rw [runZ_take (by rw [HOUT.out]; exact HNE.out) hKl, HOUT.out, hTL, hTO] at this
      exact this
    have hints : ∀ W A' c', RdI W (· < W.heap.size) A' c' (out.take K) → RdI W (· < w3.heap.size) B cb out → Calls Try.prog 15 #[.slice A' K c', .slice B K cb] W fun e w' =>
        e = .returned (.bool true) ∧ Drawn W w' := by
      intro W A' c' h1 h2
      have := ints_same W (out.take K) A' B c' cb h1 (h2.take hKo)
      rw [hTO] at this
      exact this
    have HRUN := hid hrun
    have HINTS := hid hints
    clear hrun hints hTL hTO hkr
    go_region_held3 (fun w' => w'.cell? ⟨w.heap.size, 0, none⟩ = some (.int .i64 c.ib) ∧ w'.cell? ⟨w.heap.size, 1, none⟩ = some (.slice Ag c.gates.length cg) ∧ w'.cell? ⟨w.heap.size, 2, none⟩ = some (.slice Al c.lat.length cl) ∧ w'.cell? ⟨w.heap.size, 3, none⟩ = some (.slice Ao c.outs.length co))
      (first
        | go_keep
        | exact cells4_below (by assumption) (hb9.below _)
        | exact cells4_below (by assumption) (by assumption))
      (first
        | (go_at_call 16
           refine (HRUN.out _ _ HVD.out HID.out).mono ?_
           rintro e w7 ⟨A7, c7, rfl, hb7, hr7⟩)
        | (go_at_call 15
           refine (HINTS.out _ _ _ hr7.old (HRD.out.keep (Keeps.of_below hb7 (fun _ h => h)))).mono ?_
           rintro e w9 ⟨rfl, hb9⟩))
    have h7s := hb7.size
    have hs9 := (HS.out.below (w'' := w3.drew) (by go_grown)).below hb7
    have hs9 := hs9.below (hb9.below _)
    have hb39 : Below w3.heap.size w3 w9 := ((Below.refl _ w3).drew.trans hb7).trans (hb9.below _)
    have HS := hid hs9
    have HI9 := hid ((HI.out.keep (Keeps.of_below hs9.1 (fun _ h => h))))
    have HR9 := hid (HR.out.keep (Keeps.of_below hb39 (fun _ h => h)))
    have HV9 := hid (HV.out.keep (Keeps.of_below hs9.1 (fun _ h => h)))
    have hsz9 : w3.heap.size ≤ w9.heap.size := hb39.size
    have hsz0 : w.heap.size ≤ w9.heap.size := hs9.1.size
    obtain ⟨hb0, x0, x1, x2, x3⟩ := hs9
    clear hb0 hb7 hb9 hr7 hb39 h7s q1 q2 hKca hKcb
    go_wp2_with fail
    go_loopw [10, 11, 12, 13] (fun l t _ _ wr => ∃ i : Nat, i ≤ ins.length ∧ t = .int .i64 (i : Int) ∧ l = .int .i64 (latTo c ins i) ∧ Below w9.heap.size w9 wr) (fun _ t _ _ _ => ins.length - (intOf t).toNat)
    case atStart => exact ⟨0, Nat.zero_le _, rfl, rfl, Below.refl _ _⟩
    case round =>
      obtain ⟨i, hi, rfl, rfl, hbr⟩ := hrel
      have HBR := hid hbr
      have hsr := HS.out.below hbr
      obtain ⟨hb0, x0, x1, x2, x3⟩ := hsr
      have hwr := hbr.size
      clear hb0
      by_cases hlt : i < ins.length
      · obtain ⟨b1, o1, x, rfl, _, hbl1, HX, hc1⟩ := (HI9.out.keep (Keeps.of_below hbr (fun b h => by have : b < w.heap.size := h; omega))).get hlt
        obtain ⟨b2, o2, y, rfl, _, hbl2, HY, hc2⟩ := (HR9.out.keep (Keeps.of_below hbr (fun b h => by have : b < w3.heap.size := h; omega))).get (k := i) (by rw [HNE.out]; exact hlt)
        have hit : (i : Int) < ins.length := by omega
        have hio : (i : Int) < out.length := by rw [HNE.out]; omega
        have hst := runZ_step (c := c) (ins := ins) (by rw [HOUT.out]; exact HNE.out) hlt
        rw [HOUT.out, HX.out, HY.out] at hst
        obtain ⟨l, hl⟩ : ∃ l, latTo c ins i = l := ⟨_, rfl⟩
        obtain ⟨l2, hl2⟩ : ∃ l, latTo c ins (i + 1) = l := ⟨_, rfl⟩
        rw [hl, hl2] at hst
        have HL2 := hid hl2
        rw [hl]
        have hstep : ∀ W v', RdC W (· < w.heap.size) v' c → Calls Try.prog 11 #[v', .int .i64 l, .int .i64 x] W fun e w' => e = .returned (.tuple #[.int .i64 y, .int .i64 l2]) ∧ Below W.heap.size W w' := by
          intro W v' h
          have := cstep_any v' c l x W h
          rw [hst.1, hst.2] at this
          exact this
        have HSTEP := hid hstep
        have HVR := hid (HV9.out.keep (Keeps.of_below (hbr.drew) (fun b h => by have : b < w.heap.size := h; omega)))
        have HL := hid hl
        clear hbr hst hl hl2 hstep
        go_wp2_with fail
        go_region_held3 (fun w' => w'.cell? ⟨w.heap.size, 0, none⟩ = some (.int .i64 c.ib) ∧ w'.cell? ⟨w.heap.size, 1, none⟩ = some (.slice Ag c.gates.length cg) ∧ w'.cell? ⟨w.heap.size, 2, none⟩ = some (.slice Al c.lat.length cl) ∧ w'.cell? ⟨w.heap.size, 3, none⟩ = some (.slice Ao c.outs.length co) ∧ w'.cell? ⟨b1, o1 + i, none⟩ = some (.int .i64 x))
          (first
            | go_keep
            | exact cells5_below (by assumption) hba)
          ((go_at_call 11
            refine (HSTEP.out _ _ HVR.out).mono ?_
            rintro e wa ⟨rfl, hba⟩))
        have hsa := (HS.out.below (HBR.out.drew)).below hba
        have hc2a : wa.cell? ⟨b2, o2 + i, none⟩ = some (.int .i64 y) := (hba.cell (p := ⟨b2, o2 + i, none⟩) hbl2).trans hc2
        have hc1a : wa.cell? ⟨b1, o1 + i, none⟩ = some (.int .i64 x) := (hba.cell (p := ⟨b1, o1 + i, none⟩) hbl1).trans hc1
        have hb1a : b1 < wa.heap.size := World.block_lt_of_cell? wa _ hc1a
        have hb2a : b2 < wa.heap.size := World.block_lt_of_cell? wa _ hc2a
        have HBA := hid (HBR.out.trans ((Below.refl wr.heap.size wr).drew.trans hba |>.mono hwr))
        have HSA := hid hsa
        have hwa := HBA.out.size
        have HVA := hid (HV9.out.keep (Keeps.of_below HBA.out (fun b h => by have : b < w.heap.size := h; omega)))
        obtain ⟨hb0, x0, x1, x2, x3⟩ := hsa
        clear hb0 hba hc1 hc2
        have hca : ins.length ≤ ca := hnc.1
        have hcam : ca ≤ 9223372036854775807 := hnc.2
        have hcb : out.length ≤ cb := HR9.out.len.2.1
        have hcbm : cb ≤ 9223372036854775807 := HR9.out.len.2.2
        by_cases hl0 : c.lat.length = 0
        · have e0 : ((c.lat.length : Int) == 0) = true := by simp [hl0]
          have hz2 : l2 = 0 := by rw [← HL2.out]; exact latTo_none hl0 _
          subst hz2
          have hone := runZ_one (c := c) (ins := ins) (by rw [HOUT.out]; exact HNE.out) hl0 hlt
          rw [HOUT.out, HX.out, HY.out] at hone
          have hrun : ∀ W v', RdC W (· < w.heap.size) v' c → W.cell? ⟨b1, o1 + i, none⟩ = some (.int .i64 x) → Calls Try.prog 16 #[v', .slice (some ⟨b1, o1 + i, none⟩) 1 (ca - i)] W fun e w' =>
              ∃ A' c', e = .returned (.slice A' 1 c') ∧ Below W.heap.size W w' ∧ RdI w' (fun b => W.heap.size ≤ b) A' c' [y] :=
            fun W v' h1 h2 => run_at v' W c [x] [y] _ _ h1 (RdI.single (D := fun _ => True) trivial h2 (by omega) (by omega)) (by simp) hone
          have hints : ∀ W A' c', RdI W (· < W.heap.size) A' c' [y] → W.cell? ⟨b2, o2 + i, none⟩ = some (.int .i64 y) → Calls Try.prog 15 #[.slice A' 1 c', .slice (some ⟨b2, o2 + i, none⟩) 1 (cb - i)] W fun e w' =>
              e = .returned (.bool true) ∧ Drawn W w' :=
            fun W A' c' h1 h2 => ints_same W [y] _ _ _ _ h1 (RdI.single (D := fun _ => True) trivial h2 (by omega) (by omega))
          have HRUN := hid hrun
          have HINTS := hid hints
          have HVD := hid (HVA.out.keep (Keeps.of_below (Below.refl wa.heap.size wa).drew (fun b h => by have : b < w.heap.size := h; omega)))
          have i1 : (i : Int) ≤ (i : Int) + 1 := by omega
          have i2 : (i : Int) + 1 ≤ ca := by omega
          have i3 : (i : Int) + 1 ≤ cb := by omega
          have i4 : ¬ ca = i := by omega
          have i5 : ¬ cb = i := by omega
          clear hrun hints hone hl0
          go_wp2_with fail
          have s1 : IntKind.i64.wrap ((i : Int) + 1) = (i : Int) + 1 := IntWalk.i64_in _ (by omega)
          have s2 : (0 : Int) ≤ (i : Int) + 1 := by omega
          have s3 : ((i : Int) + 1).toNat = i + 1 := by omega
          have s4 : (0 : Int) ≤ (i : Int) := by omega
          go_region_held3 (fun w' => w'.cell? ⟨w.heap.size, 0, none⟩ = some (.int .i64 c.ib) ∧ w'.cell? ⟨w.heap.size, 1, none⟩ = some (.slice Ag c.gates.length cg) ∧ w'.cell? ⟨w.heap.size, 2, none⟩ = some (.slice Al c.lat.length cl) ∧ w'.cell? ⟨w.heap.size, 3, none⟩ = some (.slice Ao c.outs.length co) ∧ w'.cell? ⟨b2, o2 + i, none⟩ = some (.int .i64 y))
            (first
              | go_keep
              | exact cells5_below (by assumption) (hbc.below _)
              | exact cells5_below (by assumption) hbb)
            (first
              | (go_at_call 16
                 refine (HRUN.out _ _ HVD.out hc1a).mono ?_
                 rintro e wb ⟨A7, c7, rfl, hbb, hr7⟩)
              | (go_at_call 15
                 refine (HINTS.out _ _ _ hr7.old ((hbb.cell (p := ⟨b2, o2 + i, none⟩) hb2a).trans hc2a)).mono ?_
                 rintro e wc ⟨rfl, hbc⟩))
          clear s1 s2 s3 s4
          have hfin : Below w9.heap.size w9 wc := (HBA.out.trans (((Below.refl wa.heap.size wa).drew.trans hbb).mono hwa)).trans (hbc.below _)
          have HFIN := hid hfin
          clear hfin hbb hbc hr7
          go_wp2_with fail
          go_roundw
          case rel => exact ⟨i + 1, by omega, by go_num, by rw [HL2.out], HFIN.out⟩
          case measure => simp [intOf]; omega
        · have e0 : ((c.lat.length : Int) == 0) = false := by rw [beq_eq_false_iff_ne]; omega
          clear hl0
          go_wp2_with fail
          go_quiet (fail)
          go_wp2_with fail
          go_roundw
          case rel => exact ⟨i + 1, by omega, by go_num, by rw [HL2.out], by exact HBA.out.trans (below_drewN (Below.refl _ _) _)⟩
          case measure => simp [intOf]; omega
      · obtain rfl : i = ins.length := by omega
        have hfin := HS.out.1.trans (HBR.out.mono hsz0)
        have HFIN := hid hfin
        clear hbr hfin
        go_wp2_with fail
        go_ret
        exact ⟨rfl, HFIN.out⟩
  · have hz : out.length = 0 := by omega
    have e1 : ((out.length : Int) != (ins.length : Int)) = true := by simp; omega
    have e2 : ((out.length : Int) == 0) = true := by simp [hz]
    clear hne hz hlen
    go_wp2_with fail
    go_ret
    exact ⟨rfl, HS.out.1⟩
end Go.Proofs.Ytfabdpnjjondaaa
