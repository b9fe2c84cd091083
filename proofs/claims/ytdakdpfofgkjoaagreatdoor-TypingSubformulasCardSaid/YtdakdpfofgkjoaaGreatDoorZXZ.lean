/-
  Walk of TypingSubformulas.
-/
import Derived.Test.YtdakdpfofgkjoaaGreatDoorZXX
set_option linter.unusedVariables false
set_option linter.unusedSimpArgs false
namespace Go.Proofs.YtdakdpfofgkjoaaGreatDoor
open Go.RowKit Go.Shelf
attribute [local go_sem] cell_alloc_old

theorem rsmall_120 {D : Dom} {w : World} {v : Value} {f : Fm} (r : Bool) (hr : decide (f.size ≤ 120) = r) (h : RdF3 w D v f) : Calls Tryz.prog 7 #[v, .int .i64 120] w fun e w' => e = .returned (.bool r) ∧ Below w.heap.size w w' := by
  subst hr
  exact rsmall_any f v 120 w h (by decide)
theorem small_lenZ {l : List Sg} (h : smallSB l = true) : l.length ≤ 10 := by
  unfold smallSB at h
  simp only [Bool.and_eq_true, decide_eq_true_eq] at h
  exact h.1
theorem RdS_get {w : World} {D : Dom} {A : Option Addr} {c k : Nat} {ss : List ByteArray} (h : RdS w D A c ss) (hk : k < ss.length) : ∃ b o x, A = some ⟨b, o, none⟩ ∧ b < w.heap.size ∧ Hid (ss.getD k ⟨#[]⟩ = x) ∧ w.cell? ⟨b, o + k, none⟩ = some (.string x) := by
  obtain ⟨b, o, e, hb, hl, hc⟩ := h.2 (by omega)
  exact ⟨b, o, _, e, hl, hid rfl, hc k _ (by simp [List.getD, hk])⟩
theorem RdS_any {w w' : World} {D : Dom} {A : Option Addr} {c : Nat} {ss : List ByteArray} (h : RdS w D A c ss) (hb : Below w.heap.size w w') : RdS w' AnyD A c ss := (Rd.keep (Rd.old h) (Keeps.of_below hb fun _ h => h)).mono fun _ _ _ => trivial
theorem at_fits {l : List Sg} {f g : Fm} (h : FitsN l f) (hp : Part g f) : formErr l g = 0 ∨ formErr l g = 2 := (hp (FitsN l) (fun x y hx hy => hx.arg hy) h).err
theorem getD_memS {ss : List ByteArray} {k : Nat} (h : k < ss.length) : ss.getD k ⟨#[]⟩ ∈ ss := by simp [List.getD, h]
set_option maxRecDepth 100000 in
set_option maxHeartbeats 8000000 in
theorem subformulas_any {D E F : Dom} (l : List Sg) (f : Fm) (zs : List Int) (AS : Option Addr) (n cS : Nat) (v : Value) (P : Option Addr) (m cP : Nat) (w : World) (hn : n = l.length) (hl : RdG w D AS cS l) (hf : RdF3 w E v f) (hm : m = zs.length) (hz : RdY w F P cP zs) (hg : GF w) (hk : GK w) :
    Calls Tryz.prog 4 #[.slice AS n cS, v, .slice P m cP] w fun e w' => e = .returned (.bool true) ∧ Below w.heap.size w w' := by
  subst hn hm
  have hlen := hl.len.1
  have hlenz := hz.len.1
  obtain ⟨AF, cF, rfl, hfa⟩ := hf
  have HL := hid hl.old
  have HF := hid hfa.old
  have HZ := hid hz.old
  have HG := hid hg
  have HK := hid hk
  clear hl hfa hz hg hk
  go_enter Tryz.func4, Tryz.ntmps4
  go_upto_region 1 with (fail)
  refine wp_gen fun W hW => ?_
  have HB := hid (show Below w.heap.size w W by rw [hW]; go_grown)
  have HO := hid (show OB W w.heap.size f.op f.name f.val f.bound AF f.args.length cF by rw [hW]; exact at_new _ _ _ rfl)
  clear hW
  have HHD := hid (head7_any W (HG.out.below HB.out HG.out.pos) (HK.out.below HB.out HK.out.pos))
  go_upto_region 2 with (go_at_call 5; (with_reducible refine HHD.out.mono ?_); rintro e V ⟨rfl, hbV⟩; have HBV := hid hbV; clear hbV)
  have HBW := hid (HB.out.trans (HBV.out.mono HB.out.size))
  have HOV := hid (HO.out.below HBV.out)
  have HLV := hid (HL.out.any HBW.out)
  have HFV := hid (HF.out.any HBW.out)
  have HZV := hid (HZ.out.any HBW.out)
  have HGV := hid (HG.out.below HBW.out HG.out.pos)
  have HKV := hid (HK.out.below HBW.out HK.out.pos)
  clear HO HHD HBV HB HL HF HG HK HZ
  have HSM := hid (ssmall_any l AS cS l.length V rfl HLV.out)
  have HFSM := hid (fun (V2 : World) (hb : Below V.heap.size V V2) => rsmall_120 (D := AnyD) (f := f) (w := V2) _ rfl ⟨AF, cF, rfl, HFV.out.any hb⟩)
  have HTF := hid (fun (V2 : World) (hb : Below V.heap.size V V2) => typform_any (D := AnyD) (E := AnyD) l AS cS l.length f (.agg #[.int .i64 f.op, .string f.name, .int .i64 f.val, .int .i64 f.bound, .slice AF f.args.length cF]) V2 rfl (HLV.out.any hb) ⟨AF, cF, rfl, HFV.out.any hb⟩ (HGV.out.below hb HGV.out.pos) (HKV.out.below hb HKV.out.pos))
  cases hsm : smallSB l
  · rw [hsm] at HSM
    clear hsm
    go_wp2_with (go_at_call 16; (with_reducible refine HSM.out.mono ?_); rintro e V2 ⟨rfl, hb2⟩; have HB2 := hid (HBW.out.trans (hb2.mono HBW.out.size)); clear hb2)
    go_ret
    exact ⟨rfl, HB2.out⟩
  have hl10 := small_lenZ hsm
  rw [hsm] at HSM
  clear hsm
  by_cases hfs : f.size ≤ 120
  case neg =>
    have hdf : decide (f.size ≤ 120) = false := by simpa using hfs
    rw [hdf] at HFSM
    clear hfs hdf
    go_wp2_with (first | (go_at_call 16; (with_reducible refine HSM.out.mono ?_); rintro e V2 ⟨rfl, hb2⟩; have HB2 := hid hb2; obtain ⟨t0, t1, t2, t3, t4, t5⟩ := (HOV.out.below hb2).cells; clear hb2) | (go_at_call 7; (with_reducible refine (HFSM.out _ HB2.out).mono ?_); rintro e V3 ⟨rfl, hb3⟩; have HB3 := hid (HB2.out.trans (hb3.mono HB2.out.size)); clear hb3))
    go_ret
    exact ⟨rfl, HBW.out.trans (HB3.out.mono HBW.out.size)⟩
  have hdf : decide (f.size ≤ 120) = true := by simpa using hfs
  rw [hdf] at HFSM
  have HFS := hid hfs
  clear hfs hdf
  by_cases hz20 : 20 < zs.length
  · have hi20 : 20 < (zs.length : Int) := by omega
    clear hz20
    go_wp2_with (first | (go_at_call 16; (with_reducible refine HSM.out.mono ?_); rintro e V2 ⟨rfl, hb2⟩; have HB2 := hid hb2; obtain ⟨t0, t1, t2, t3, t4, t5⟩ := (HOV.out.below hb2).cells; clear hb2) | (go_at_call 7; (with_reducible refine (HFSM.out _ HB2.out).mono ?_); rintro e V3 ⟨rfl, hb3⟩; have HB3 := hid (HB2.out.trans (hb3.mono HB2.out.size)); clear hb3))
    go_ret
    exact ⟨rfl, HBW.out.trans (HB3.out.mono HBW.out.size)⟩
  have hi20 : ¬ 20 < (zs.length : Int) := by omega
  clear hz20
  obtain ⟨e0, he0⟩ : ∃ e0, formErr l f = e0 := ⟨_, rfl⟩
  rw [he0] at HTF
  have HE0 := hid he0
  clear he0
  by_cases hez : e0 = 0
  case neg =>
    have hen : (e0 != 0) = true := bneI_t hez
    clear hez
    go_wp2_with (first | (go_at_call 16; (with_reducible refine HSM.out.mono ?_); rintro e V2 ⟨rfl, hb2⟩; have HB2 := hid hb2; obtain ⟨t0, t1, t2, t3, t4, t5⟩ := (HOV.out.below hb2).cells; clear hb2) | (go_at_call 7; (with_reducible refine (HFSM.out _ HB2.out).mono ?_); rintro e V3 ⟨rfl, hb3⟩; have HB3 := hid (HB2.out.trans (hb3.mono HB2.out.size)); obtain ⟨u0, u1, u2, u3, u4, u5⟩ := (HOV.out.below HB3.out).cells; clear hb3 t0 t1 t2 t3 t4 t5) | (go_at_call 10; (with_reducible refine (HTF.out _ HB3.out).mono ?_); rintro e V4 ⟨rfl, hb4⟩; have HB4 := hid (HB3.out.trans (hb4.mono HB3.out.size)); clear hb4))
    go_ret
    exact ⟨rfl, HBW.out.trans (HB4.out.mono HBW.out.size)⟩
  subst hez
  have HFI := hid (FitsN.of HE0.out)
  have HNA := hid (fun (V2 : World) (hb : Below V.heap.size V V2) => names_any (D := AnyD) f (.agg #[.int .i64 f.op, .string f.name, .int .i64 f.val, .int .i64 f.bound, .slice AF f.args.length cF]) V2 ⟨AF, cF, rfl, HFV.out.any hb⟩ (HGV.out.below hb HGV.out.pos) (by have := depth_size f; have := HFS.out; omega) (by have := HFS.out; omega))
  have HND : Hid (∀ k, k < (namesF f).length → 0 ≤ findZ l ((namesF f).getD k ⟨#[]⟩)) := hid fun k hk => err_findZ HFI.out.2.2 (getD_memS hk)
  obtain ⟨N, hN⟩ : ∃ N, namesF f = N := ⟨_, rfl⟩
  rw [hN] at HNA HND
  clear hN
  go_upto_region 5 with (first | (go_at_call 16; (with_reducible refine HSM.out.mono ?_); rintro e V2 ⟨rfl, hb2⟩; have HB2 := hid hb2; obtain ⟨t0, t1, t2, t3, t4, t5⟩ := (HOV.out.below hb2).cells; clear hb2) | (go_at_call 7; (with_reducible refine (HFSM.out _ HB2.out).mono ?_); rintro e V3 ⟨rfl, hb3⟩; have HB3 := hid (HB2.out.trans (hb3.mono HB2.out.size)); obtain ⟨u0, u1, u2, u3, u4, u5⟩ := (HOV.out.below HB3.out).cells; clear hb3 t0 t1 t2 t3 t4 t5) | (go_at_call 10; (with_reducible refine (HTF.out _ HB3.out).mono ?_); rintro e V4 ⟨rfl, hb4⟩; have HB4 := hid (HB3.out.trans (hb4.mono HB3.out.size)); obtain ⟨t0, t1, t2, t3, t4, t5⟩ := (HOV.out.below HB4.out).cells; clear hb4 u0 u1 u2 u3 u4 u5) | (go_at_call 17; (with_reducible refine (HNA.out _ HB4.out).mono ?_); rintro e V5 ⟨AN, cN, rfl, hr5, hb5⟩; have HB5 := hid (HB4.out.trans (hb5.mono HB4.out.size)); have HR5 := hid hr5; clear hb5 hr5 t0 t1 t2 t3 t4 t5))
  have hnl := HR5.out.1.2.1
  go_wp2_with fail
  go_loopw [9] (fun i wr => ∃ k : Nat, k ≤ N.length ∧ i = .int .i64 (k : Int) ∧ Hid (Below V5.heap.size V5 wr)) (fun i _ => N.length - (intOf i).toNat)
  case atStart => exact ⟨0, Nat.zero_le _, rfl, Below.refl _ _⟩
  case round =>
    obtain ⟨k, hk, rfl, HBR⟩ := hrel
    have HBV := hid (HB5.out.trans (HBR.out.mono HB5.out.size))
    by_cases hlt : k < N.length
    · have hki : (k : Int) < N.length := by omega
      have hk0 : (0 : Int) ≤ (k : Int) := by omega
      have HRr := hid (RdS_any HR5.out HBR.out)
      obtain ⟨b, o, s, rfl, hb1, HS, hc⟩ := RdS_get HRr.out hlt
      have HFI2 := hid (sfind_any (D := AnyD) l s AS cS l.length wr rfl (HLV.out.any HBV.out))
      have hf0 : ¬ findZ l s < 0 := by have := HND.out k hlt; rw [HS.out] at this; omega
      clear hk HS
      go_wp2_with (go_at_call 18; (with_reducible refine HFI2.out.mono ?_); rintro e V6 ⟨rfl, hb6⟩; have HB6 := hid hb6; clear hb6)
      go_roundw
      case rel => exact ⟨k + 1, by omega, by go_num, HBR.out.trans (HB6.out.mono HBR.out.size)⟩
      case measure => simp [intOf]; omega
    · have hki : ¬ (k : Int) < N.length := by omega
      clear hk
      have HOR := hid (HOV.out.below HBV.out)
      obtain ⟨t0, t1, t2, t3, t4, t5⟩ := HOR.out.cells
      have HVF := hid (fun (W' : World) (hb : Below V.heap.size V W') => (VF.of (HFV.out.any hb) : VF W' f.op f.name f.val f.bound AF f.args.length cF f))
      obtain ⟨e1, he1⟩ : ∃ e1, formErr l (opF 4 [f]) = e1 := ⟨_, rfl⟩
      obtain ⟨vb, hvb⟩ : ∃ vb, validB (opF 4 [f]) = vb := ⟨_, rfl⟩
      have HE1 := hid he1
      have HVB := hid hvb
      have HNE := hid (show e1 = 0 ∨ e1 = 2 ∨ (vb = false ∧ e1 = 30) by rw [← he1, ← hvb]; exact not_err HFI.out)
      clear he1 hvb
      go_upto_region 11 with (first | (go_at_call 19; (with_reducible refine (op_lit 4 [f] ?_ ?_).mono ?_); exact rfl; exact lit_slice1 (HVF.out _ (belNx HBV.out (by go_grown))) (at_new _ _ _ rfl); rintro e V6 ⟨rfl, hv6, hb6⟩; have HV6 := hid hv6; have HB6 := hid (belNx HBV.out (nx_of HBV.out (by go_grown) hb6)); clear hv6 hb6) | (go_at_call 10; (with_reducible refine (typform_lit (D := AnyD) (l := l) e1 HE1.out ?_ ?_ ?_ ?_ ?_).mono ?_); exact HV6.out; exact HLV.out.any HB6.out; rfl; exact HGV.out.below HB6.out HGV.out.pos; exact HKV.out.below HB6.out HKV.out.pos; rintro e V7 ⟨rfl, hb7⟩; have HB7 := hid (belNx HB6.out hb7); clear hb7))
      clear t0 t1 t2 t3 t4 t5
      obtain ⟨t0, t1, t2, t3, t4, t5⟩ := (HOV.out.below HB7.out).cells
      have HSZ := hid (fun (V2 : World) (hb : Below V.heap.size V V2) => size_any (D := AnyD) f (.agg #[.int .i64 f.op, .string f.name, .int .i64 f.val, .int .i64 f.bound, .slice AF f.args.length cF]) V2 ⟨AF, cF, rfl, HFV.out.any hb⟩ (HGV.out.below hb HGV.out.pos) (by have := depth_size f; have := HFS.out; omega) (by have := HFS.out; omega))
      have HLA := hid (fun (V2 : World) (hb : Below V.heap.size V V2) => layered_any (D := AnyD) f (.agg #[.int .i64 f.op, .string f.name, .int .i64 f.val, .int .i64 f.bound, .slice AF f.args.length cF]) V2 ⟨AF, cF, rfl, HFV.out.any hb⟩ (HGV.out.below hb HGV.out.pos) (by have := depth_size f; have := HFS.out; omega))
      have hly : allB layQ f = true := err_layered f HFI.out.2.2
      rw [hly] at HLA
      clear hly
      have HAT := hid (fun (V2 : World) (hb : Below V.heap.size V V2) => at_any (D := AnyD) (E := AnyD) f (.agg #[.int .i64 f.op, .string f.name, .int .i64 f.val, .int .i64 f.bound, .slice AF f.args.length cF]) P zs.length cP zs V2 ⟨AF, cF, rfl, HFV.out.any hb⟩ rfl (HZV.out.any hb))
      by_cases h60 : 60 ≤ f.size
      · have hi60 : 60 ≤ (f.size : Int) := by omega
        clear h60
        go_upto_region 12 with (go_at_call 20; (with_reducible refine (HSZ.out _ HB7.out).mono ?_); rintro e V8 ⟨rfl, hb8⟩; have HB8 := hid (belNx HB7.out hb8); clear hb8)
        clear t0 t1 t2 t3 t4 t5
        obtain ⟨t0, t1, t2, t3, t4, t5⟩ := (HOV.out.below HB8.out).cells
        go_upto_region 13 with (first | (go_at_call 22; (with_reducible refine (HAT.out _ HB8.out).mono ?_); rintro e VB ⟨g, vg, rfl, hrg, hpg, hbb⟩; have HRG := hid hrg; have HPG := hid hpg; have HBB := hid (belNx HB8.out hbb); clear hrg hpg hbb) | (go_at_call 10; (with_reducible refine (typform_any (D := AnyD) (E := AnyD) l AS cS l.length g vg _ rfl ?_ ?_ ?_ ?_).mono ?_); exact HLV.out.any HBB.out; exact HRG.out; exact HGV.out.below HBB.out HGV.out.pos; exact HKV.out.below HBB.out HKV.out.pos; rintro e VC ⟨rfl, hbc⟩; have HBC := hid (belNx HBB.out hbc); clear hbc))
        clear t0 t1 t2 t3 t4 t5
        obtain ⟨t0, t1, t2, t3, t4, t5⟩ := (HOV.out.below HBC.out).cells
        have HE2 := hid (at_fits HFI.out HPG.out)
        obtain ⟨e2, he2⟩ : ∃ e2, formErr l g = e2 := ⟨_, rfl⟩
        rw [he2] at HE2 ⊢
        clear he2
        rcases HE2.out with rfl | rfl <;> rcases HNE.out with rfl | rfl | ⟨rfl, rfl⟩
        all_goals
          go_wp2_with (go_at_call 23; (with_reducible refine (HLA.out _ HBC.out).mono ?_); rintro e VD ⟨rfl, hbd⟩; have HBD := hid (belNx HBC.out hbd); clear hbd)
          go_ret
          exact ⟨rfl, belNx HBW.out HBD.out⟩
      · have hi60 : ¬ 60 ≤ (f.size : Int) := by omega
        clear h60
        go_upto_region 12 with (first | (go_at_call 20; (with_reducible refine (HSZ.out _ HB7.out).mono ?_); rintro e V8 ⟨rfl, hb8⟩; have HB8 := hid (belNx HB7.out hb8); obtain ⟨s0, s1, s2, s3, s4, s5⟩ := (HOV.out.below HB8.out).cells; clear hb8) | (go_at_call 19; (with_reducible refine (op_lit 4 [f] ?_ ?_).mono ?_); exact rfl; exact lit_slice1 (HVF.out _ (belNx HB8.out (by go_grown))) (at_new _ _ _ rfl); rintro e V9 ⟨rfl, hv9, hb9⟩; have HV9 := hid hv9; have HB9 := hid (belNx HB8.out (nx_of HB8.out (by go_grown) hb9)); clear hv9 hb9) | (go_at_call 21; (with_reducible refine (valid_any (D := AnyD) (opF 4 [f]) _ _ HV9.out.rd ?_ ?_).mono ?_); exact HGV.out.below HB9.out HGV.out.pos; exact HKV.out.below HB9.out HKV.out.pos; rw [HVB.out]; rintro e VA ⟨rfl, hba⟩; have HBA := hid (belNx HB9.out hba); clear hba s0 s1 s2 s3 s4 s5))
        clear t0 t1 t2 t3 t4 t5
        obtain ⟨t0, t1, t2, t3, t4, t5⟩ := (HOV.out.below HBA.out).cells
        go_upto_region 13 with (first | (go_at_call 22; (with_reducible refine (HAT.out _ HBA.out).mono ?_); rintro e VB ⟨g, vg, rfl, hrg, hpg, hbb⟩; have HRG := hid hrg; have HPG := hid hpg; have HBB := hid (belNx HBA.out hbb); clear hrg hpg hbb) | (go_at_call 10; (with_reducible refine (typform_any (D := AnyD) (E := AnyD) l AS cS l.length g vg _ rfl ?_ ?_ ?_ ?_).mono ?_); exact HLV.out.any HBB.out; exact HRG.out; exact HGV.out.below HBB.out HGV.out.pos; exact HKV.out.below HBB.out HKV.out.pos; rintro e VC ⟨rfl, hbc⟩; have HBC := hid (belNx HBB.out hbc); clear hbc))
        clear t0 t1 t2 t3 t4 t5
        obtain ⟨t0, t1, t2, t3, t4, t5⟩ := (HOV.out.below HBC.out).cells
        have HE2 := hid (at_fits HFI.out HPG.out)
        obtain ⟨e2, he2⟩ : ∃ e2, formErr l g = e2 := ⟨_, rfl⟩
        rw [he2] at HE2 ⊢
        clear he2
        rcases HE2.out with rfl | rfl <;> rcases HNE.out with rfl | rfl | ⟨rfl, rfl⟩
        all_goals
          go_wp2_with (go_at_call 23; (with_reducible refine (HLA.out _ HBC.out).mono ?_); rintro e VD ⟨rfl, hbd⟩; have HBD := hid (belNx HBC.out hbd); clear hbd)
          go_ret
          exact ⟨rfl, belNx HBW.out HBD.out⟩
end Go.Proofs.YtdakdpfofgkjoaaGreatDoor
