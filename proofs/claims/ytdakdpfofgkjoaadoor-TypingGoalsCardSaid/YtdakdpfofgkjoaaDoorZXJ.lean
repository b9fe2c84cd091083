/-
  Walk of TypingRequirements.
-/
import Derived.Test.YtdakdpfofgkjoaaDoorZ39
set_option linter.unusedVariables false
set_option linter.unusedSimpArgs false
namespace Go.Proofs.YtdakdpfofgkjoaaDoor
open Go.RowKit Go.Shelf
attribute [local go_sem] cell_alloc_old build_sp

theorem req_info : (Tryd.prog.info? 43).map (fun i => (i.zero, i.size, i.bytes)) = some (some (.agg #[.string ⟨#[]⟩, .string ⟨#[]⟩, .int .i64 0, .int .i64 0, .string ⟨#[]⟩, .int .i64 0, .int .i64 0, .slice none 0 0]), 8, 104) := by kernel_rfl
theorem RdR.belowD {w w' : World} {D : Dom} {A : Option Addr} {c : Nat} {l : List Rq} (h : RdR w D A c l) (hb : Below w.heap.size w w') : RdR w' D A c l :=
  ((h.mono (E := fun k => D k ∧ k < w.heap.size) fun k hk hl => ⟨hk, hl⟩).keep (Keeps.of_below hb fun _ h => h.2)).mono fun _ h _ => h.1
theorem slice_rq (g q : Nat) {n c i : Nat} (h2 : i + 1 ≤ c) (w : World) : (Instr.slice 34 (.slice (some ⟨g, q, none⟩) n c) (some (.int .i64 (i : Int))) (some (.int .i64 ((i : Int) + 1))) none).run Tryd.prog w = .ok (.slice (some ⟨g, q + i * 8, none⟩) 1 (c - i)) w := by
  obtain ⟨i0, hti, hz0, hz1, hz2⟩ := info_parts req_info
  have ht : Tryd.prog.underlying 34 = some (.slice 43) := Tryd.underlying34
  have ht' : Tryd.prog.underlying 34 = some (.slice (Tryd.prog.elem 34)) := by simp [Program.elem, ht]
  have he : Tryd.prog.elem 34 = 43 := by simp [Program.elem, ht]
  have hsz : ∀ w, (Go.sizeOf 43).run Tryd.prog w = .ok 8 w := fun w => by simp [sizeOf, typeInfo, hti, hz1]
  have e2 : ((i : Int) + 1).toNat = i + 1 := by omega
  rw [run_slice_lh w 34 _ _ _ ht' .i64 .i64 _ _ (by omega) (by omega) (by omega), he, hsz, e2]
  have hne : ¬ c = i := by omega
  by_cases h0 : i = 0
  · subst h0
    simp [Result.andThen, sliced, Addr.add, hne]
  · simp [Result.andThen, sliced, Addr.add, hne, h0]
    omega
/-- What the law's loop rests on. -/
structure ReqB (w : World) (l : List Sg) (rs : List Rq) (sb : Nat) (AS : Option Addr) (cS : Nat) (AR : Option Addr) (cR : Nat) (B : Nat) (A : Option Addr) (c : Nat) (F : List (Int × Int)) : Prop where
  g : GF w
  k : GK w
  s : SpecAt w sb AS l.length cS AR rs.length cR
  l : RdG w AnyD AS cS l
  r : RdR w (· < B) AR cR rs
  f : RdT w AnyD A c F
theorem ReqB.below {w w' : World} {l : List Sg} {rs : List Rq} {sb : Nat} {AS : Option Addr} {cS : Nat} {AR : Option Addr} {cR B : Nat} {A : Option Addr} {c : Nat} {F : List (Int × Int)} (h : ReqB w l rs sb AS cS AR cR B A c F) (hb : Below w.heap.size w w') : ReqB w' l rs sb AS cS AR cR B A c F :=
  ⟨h.g.below hb h.g.pos, h.k.below hb h.k.pos, h.s.below hb, h.l.any hb, h.r.belowD hb, h.f.any hb⟩
theorem RdR.cutv {w : World} {D : Dom} {A : Option Addr} {c k : Nat} {l : List Rq} {r : Rq} (h : RdR w D A c l) (hk : k < l.length) (hr : l.getD k default = r) {b o : Nat} (hA : A = some ⟨b, o, none⟩) : RdR w D (some ⟨b, o + k * 8, none⟩) (c - k) [r] := by
  obtain ⟨b', o', e, h1⟩ := h.cut1 hk
  rw [hA] at e
  injection e with e
  injection e with e1 e2 _
  subst e1 e2
  rw [← hr]; exact h1
set_option maxRecDepth 100000 in
set_option maxHeartbeats 8000000 in
theorem requirements_any {D E : Dom} (l : List Sg) (rs : List Rq) (AS : Option Addr) (n cS : Nat) (AR : Option Addr) (m cR : Nat) (w : World) (hn : n = l.length) (hl : RdG w D AS cS l) (hm : m = rs.length) (hr : RdR w E AR cR rs) (hg : GF w) (hk : GK w) :
    Calls Tryd.prog 4 #[.agg #[.slice AS n cS, .slice AR m cR]] w fun e w' => e = .returned (.bool true) ∧ Below w.heap.size w w' := by
  subst hn hm
  have hlen := hl.len.1
  have hlen2 := hr.len.1
  have HL := hid hl.old
  have HR := hid hr.old
  have HG := hid hg
  have HK := hid hk
  clear hl hr hg hk
  obtain ⟨i0, hti, hz0, hz1, hz2⟩ := info_parts req_info
  have HTI := hid hti
  have HZ0 := hid hz0
  have HZ1 := hid hz1
  have HZ2 := hid hz2
  clear hti hz0 hz1 hz2
  go_enter Tryd.func4, Tryd.ntmps4
  go_upto_region 1 with (fail)
  refine wp_gen fun W hW => ?_
  have HB := hid (show Below w.heap.size w W by rw [hW]; go_grown)
  have HS := hid (show SpecAt W w.heap.size AS l.length cS AR rs.length cR by show W.heap[_]? = _; rw [hW]; exact at_new _ _ _ rfl)
  have HWS := hid (show W.heap.size = w.heap.size + 1 by rw [hW]; simp)
  clear hW
  have HHD := hid (head7_any W (HG.out.below HB.out HG.out.pos) (HK.out.below HB.out HK.out.pos))
  go_upto_region 2 with (go_at_call 6; (with_reducible refine HHD.out.mono ?_); rintro e V ⟨rfl, hbV⟩; have HBV := hid hbV; clear hbV)
  have HBW := hid (HB.out.trans (HBV.out.mono HB.out.size))
  have HSV := hid (HS.out.below HBV.out)
  have HLV := hid (HL.out.any HBW.out)
  have HRV := hid (HR.out.any HBW.out)
  have HGV := hid (HG.out.below HBW.out HG.out.pos)
  have HKV := hid (HK.out.below HBW.out HK.out.pos)
  have HVS := hid (show w.heap.size + 1 ≤ V.heap.size by have := HBV.out.size; have := HWS.out; omega)
  clear HS HHD HBV HB
  obtain ⟨s0, s1, s2⟩ := HSV.out.cells
  have HFW := hid (few_any l rs AS l.length cS AR rs.length cR V rfl HLV.out rfl HRV.out)
  cases hfw : fewB l rs
  · rw [hfw] at HFW
    clear hfw
    go_wp2_with (go_at_call 11; (with_reducible refine HFW.out.mono ?_); rintro e V2 ⟨rfl, hb2⟩; have HB2 := hid (HBW.out.trans (hb2.mono HBW.out.size)); clear hb2)
    go_ret
    exact ⟨rfl, HB2.out⟩
  rw [hfw] at HFW
  clear hfw
  have HSVL := hid (fun (V2 : World) (hb : Below V.heap.size V V2) => svalid_any l AS cS l.length V2 rfl (HLV.out.any hb) (HKV.out.below hb HKV.out.pos))
  cases hvs : validS l
  · rw [hvs] at HSVL
    clear hvs
    go_wp2_with (first | (go_at_call 11; (with_reducible refine HFW.out.mono ?_); rintro e V2 ⟨rfl, hb2⟩; have HB2 := hid hb2; obtain ⟨t0, t1, t2⟩ := (HSV.out.below hb2).cells; clear hb2 s0 s1 s2) | (go_at_call 10; (with_reducible refine (HSVL.out _ HB2.out).mono ?_); rintro e V3 ⟨rfl, hb3⟩; have HB3 := hid (HB2.out.trans (hb3.mono HB2.out.size)); clear hb3))
    go_ret
    exact ⟨rfl, HBW.out.trans (HB3.out.mono HBW.out.size)⟩
  rw [hvs] at HSVL
  have HVSL := hid hvs
  clear hvs
  by_cases h16 : 16 < rs.length
  · have hi16 : 16 < (rs.length : Int) := by omega
    clear h16
    go_wp2_with (first | (go_at_call 11; (with_reducible refine HFW.out.mono ?_); rintro e V2 ⟨rfl, hb2⟩; have HB2 := hid hb2; obtain ⟨t0, t1, t2⟩ := (HSV.out.below hb2).cells; clear hb2 s0 s1 s2) | (go_at_call 10; (with_reducible refine (HSVL.out _ HB2.out).mono ?_); rintro e V3 ⟨rfl, hb3⟩; have HB3 := hid (HB2.out.trans (hb3.mono HB2.out.size)); obtain ⟨u0, u1, u2⟩ := (HSV.out.below HB3.out).cells; clear hb3 t0 t1 t2))
    go_ret
    exact ⟨rfl, HBW.out.trans (HB3.out.mono HBW.out.size)⟩
  have hi16 : ¬ 16 < (rs.length : Int) := by omega
  have H16 := hid (show rs.length ≤ 16 by omega)
  clear h16
  have HCK := hid (fun (V2 : World) (hb : Below V.heap.size V V2) => check_any l rs AS l.length cS AR rs.length cR V2 rfl (HLV.out.any hb) rfl (HRV.out.any hb) (HGV.out.below hb HGV.out.pos) (HKV.out.below hb HKV.out.pos))
  go_upto_region 4 with (first | (go_at_call 11; (with_reducible refine HFW.out.mono ?_); rintro e V2 ⟨rfl, hb2⟩; have HB2 := hid hb2; obtain ⟨t0, t1, t2⟩ := (HSV.out.below hb2).cells; clear hb2 s0 s1 s2) | (go_at_call 10; (with_reducible refine (HSVL.out _ HB2.out).mono ?_); rintro e V3 ⟨rfl, hb3⟩; have HB3 := hid (HB2.out.trans (hb3.mono HB2.out.size)); obtain ⟨u0, u1, u2⟩ := (HSV.out.below HB3.out).cells; clear hb3 t0 t1 t2))
  go_upto_region 7 with (go_at_call 12; (with_reducible refine (HCK.out _ HB3.out).mono ?_); rintro e V4 ⟨AF, cF, rfl, hT, hb4⟩; have HT := hid (Rd.mono hT fun _ _ _ => trivial : RdT _ AnyD AF cF (checkZ l rs)); have HB4 := hid (HB3.out.trans (hb4.mono HB3.out.size)); clear hT hb4 u0 u1 u2)
  have HFZ := hid (show checkZ l rs = faultsTo l rs rs.length by unfold checkZ; rw [HVSL.out, if_pos rfl, if_pos H16.out])
  obtain ⟨F, hF⟩ : ∃ F, checkZ l rs = F := ⟨_, rfl⟩
  rw [hF] at HT HFZ ⊢
  clear hF HFW HSVL HCK HB2 HB3
  have HBW4 := hid (HBW.out.trans (HB4.out.mono HBW.out.size))
  have HC := hid (show ReqB V4 l rs w.heap.size AS cS AR cR w.heap.size AF cF F from ⟨HGV.out.below HB4.out HGV.out.pos, HKV.out.below HB4.out HKV.out.pos, HSV.out.below HB4.out, HLV.out.any HB4.out, (HR.out).belowD HBW4.out, HT.out⟩)
  obtain ⟨base, hbase⟩ : ∃ base, base = V4.heap.size := ⟨_, rfl⟩
  have HBS := hid (show base ≤ V4.heap.size ∧ V4.heap.size ≤ base ∧ w.heap.size < base by have := HB4.out.size; have := HVS.out; omega)
  refine wp_gen fun V5 hV5 => ?_
  have HB5 := hid (show Below base V4 V5 by rw [hV5]; exact (Below.refl base V4).alloc HBS.out.1 _)
  have HQ0 := hid (show V5.heap[base]? = some (.cells #[] 43 (0, 0)) by rw [hV5, hbase]; exact at_new _ _ _ rfl)
  rw [← hbase]
  clear hV5 HT HB4 hbase HSV HLV HRV HGV HKV HVS HBW
  have hF16 : F.length ≤ 16 := by rw [HFZ.out]; have := faultsTo_len l rs rs.length; have := H16.out; omega
  have HC5 := hid (HC.out.below (HB5.out.mono HBS.out.2.1))
  go_wp2_with fail
  go_loopw [5, 6, 7] (fun p q r wr => ∃ (i : Nat) (A : Option Addr) (c : Nat) (sl : List (Option Addr × Nat)), i ≤ rs.length ∧ p = .int .i64 ((faultsTo l rs i).length : Int) ∧ q = .slice A (goodTo l rs i).length c ∧ r = .int .i64 (i : Int) ∧ Hid (QRow wr base A c (goodTo l rs i) sl) ∧ Hid (Below base V4 wr)) (fun _ _ r _ => rs.length - (intOf r).toNat)
  case atStart => exact ⟨0, some ⟨base, 0, none⟩, 0, [], Nat.zero_le _, rfl, rfl, rfl, QRow.empty (Nat.le_refl _) HQ0.out, HB5.out⟩
  case round =>
    obtain ⟨i, A, c, sl, hi, rfl, rfl, rfl, HQ, HBR⟩ := hrel
    have HCR := hid (HC.out.below (HBR.out.mono HBS.out.2.1))
    have HBWR := hid (HBW4.out.trans (HBR.out.mono (Nat.le_of_lt HBS.out.2.2)))
    have hk16 : (faultsTo l rs i).length ≤ 16 := by have := faultsTo_len l rs i; have := H16.out; omega
    have hg16 : (goodTo l rs i).length ≤ 16 := by have := goodTo_len l rs i; have := H16.out; omega
    have HFS := hid (faultsTo_succ l rs i)
    have HGS := hid (goodTo_succ l rs i)
    have HYES := hid (fun (hlt : i < rs.length) (h : reqErr l rs i ≠ 0) => fault_yes (n := rs.length) hlt h)
    have HNO := hid (fun (hlt : i < rs.length) (h : reqErr l rs i = 0) hk => fault_no (n := rs.length) hlt h hk)
    have HEND := hid (fun (h : i = rs.length) => (show (faultsTo l rs i).length = F.length by rw [HFZ.out, h]))
    have HGE := hid (fun (h : i = rs.length) => (show checkZ l (goodTo l rs i) = [] by rw [h]; exact good_good HVSL.out H16.out))
    rw [← HFZ.out] at HYES HNO
    obtain ⟨K, hK⟩ : ∃ K, faultsTo l rs i = K := ⟨_, rfl⟩
    obtain ⟨Gd, hGd⟩ : ∃ Gd, goodTo l rs i = Gd := ⟨_, rfl⟩
    rw [hK] at HFS HYES HNO HEND hk16 ⊢
    rw [hGd] at HGS HGE HQ hg16 ⊢
    clear hK hGd
    obtain ⟨k, hk⟩ : ∃ k, K.length = k := ⟨_, rfl⟩
    rw [hk] at HYES HNO HEND hk16 ⊢
    have HKL := hid hk
    clear hk
    obtain ⟨s0, s1, s2⟩ := HCR.out.s.cells
    have hki : IntKind.i64.wrap ((k : Int) + 1) = (k : Int) + 1 := IntWalk.i64_in _ (by omega)
    by_cases hlt : i < rs.length
    · have hii : (i : Int) < rs.length := by omega
      have HLT := hid hlt
      have hwi : IntKind.i64.wrap ((i : Int) + 1) = (i : Int) + 1 := IntWalk.i64_in _ (by omega)
      obtain ⟨b, o, A1, c1, r, rfl, HX, hr1⟩ := HCR.out.r.get hlt
      have hcap : i + 1 ≤ cR := by have := HCR.out.r.len; omega
      have hsl := fun W => slice_rq b o (n := rs.length) hcap W
      have HCUT := hid (fun (W : World) (hb : Below wr.heap.size wr W) => (HCR.out.below hb).r.cutv hlt HX.out rfl)
      have HRI := hid HX.out
      have HRR := hid hr1
      clear HX hr1
      by_cases he : reqErr l rs i = 0
      · -- the requirement has no fault
        have hal : aloneE l r = 0 := by
          have h := reqErr_alone (l := l) (rs := rs) (i := i) (by rw [he]; decide)
          rw [HRI.out, he] at h
          exact h.symm
        have HAL := hid (show checkZ l [r] = [] by rw [check_alone HVSL.out, if_pos hal])
        have HCKA := hid (fun (W : World) (hb : Below wr.heap.size wr W) => check_lit (m := 1) (D := AnyD) (E := (· < w.heap.size)) (l := l) (rs := [r]) [] 0 HAL.out rfl rfl (HCR.out.below hb).l rfl (HCUT.out W hb) (HCR.out.below hb).g (HCR.out.below hb).k)
        have HE := hid he
        clear hal he
        have HCELL : Hid (∀ W' : World, Below wr.heap.size wr W' → W'.cell? ⟨w.heap.size, 0, none⟩ = some (.slice AS l.length cS) ∧ W'.cell? ⟨w.heap.size, 1, none⟩ = some (.slice (some ⟨b, o, none⟩) rs.length cR)) := hid fun W' hb => let h := (HCR.out.below hb).s.cells; ⟨h.1, h.2.1⟩
        go_upto_region 10 with (fail)
        go_region_held3 (fun W' : World => W'.cell? ⟨w.heap.size, 0, none⟩ = some (.slice AS l.length cS) ∧ W'.cell? ⟨w.heap.size, 1, none⟩ = some (.slice (some ⟨b, o, none⟩) rs.length cR))
          (first | (with_reducible exact HCELL.out _ HB6.out) | (go_keep; done))
          ((go_at_call 12; (with_reducible refine (HCKA.out _ ?_).mono ?_); (first | exact Below.refl _ _ | go_grown | exact (Drawn.n _ _).below _); rintro e V6 ⟨A6, c6, rfl, hT6, hb6⟩; have HB6 := hid ((show Below wr.heap.size wr _ by first | exact Below.refl _ _ | go_grown | exact (Drawn.n _ _).below _).trans (hb6.mono (by first | exact Nat.le_refl _ | simp))); clear hb6))
        all_goals
          clear hT6 s0 s1 s2
          have HC6 := hid (HCR.out.below HB6.out)
          have HR6 := hid (HRR.out.any HB6.out)
          have HBB6 := hid (HBR.out.trans (HB6.out.mono (Nat.le_trans HBS.out.1 HBR.out.size)))
          have HQ6 := hid (HQ.out.below HB6.out)
          have hbx : base ≤ V6.heap.size := by have := HBS.out.1; have := HBB6.out.size; omega
          obtain ⟨-, n8, n0, n1, n2, n3, n4, n5, n6, n7, -⟩ := HR6.out
          obtain ⟨s0, s1, s2⟩ := HC6.out.s.cells
          have hone := qcells_one r (A1, c1)
          have HARG := hid (HRR.out.args.belowD HB6.out)
          by_cases hkl : k < F.length
          · have hkk : (k : Int) < F.length := by omega
            obtain ⟨fb, fo, x, rfl, -, hlf, HX, x0, x1⟩ := HC6.out.f.get hkl
            have hne : (x.1 == (i : Int)) = false := by
              have h := HNO.out HLT.out HE.out hkl
              rw [HX.out] at h
              simpa using h
            go_wp2_with (at_builtin; go_must (refine wpList_append_rd _ rfl (.tmp 95) (.tmp 101) 34 rfl base 43 i0 _ 8 104 Tryd.underlying34 HTI.out HZ0.out HZ1.out HZ2.out rfl (by omega) (.slice A Gd.length c) Gd.length _ rfl (own_below HQ6.out.own (by go_grown)) _ (some ⟨V6.heap.size, 0, none⟩) 1 1 _ rfl (Rd.fresh (D := AnyD) (n := 1) rfl trivial rfl (by decide)) hone (by omega) (maxLen_le (by omega)) (by simp; omega) ?_); intro A7 c7 w7 hown7 hg7 hat7)
            have HG7 := hid hg7
            have HO7 := hid hown7
            clear hown7 hg7 hat7
            go_roundw
            case rel =>
              refine ⟨i + 1, A7, c7, sl ++ [(A1, c1)], HLT.out, by rw [HFS.out, if_pos HE.out, List.append_nil, HKL.out], by rw [HGS.out, if_pos HE.out, List.length_append]; rfl, by go_num, ?_, ?_⟩
              · rw [HGS.out, if_pos HE.out, HRI.out]
                exact QRow.app (HQ6.out.below (by go_grown)) HG7.out (by rw [List.length_append]; rfl) HO7.out ((HARG.out.belowD (by go_grown)).mono fun k hk _ => Nat.lt_trans hk HBS.out.2.2)
              · exact Below.grown (HBB6.out.alloc hbx _) HG7.out (by simp; omega) fun k hk => (own_ge HQ6.out.own hk).1
            case measure => have := HLT.out; simp [intOf]; omega
          · have hkk : ¬ (k : Int) < F.length := by omega
            go_wp2_with (at_builtin; go_must (refine wpList_append_rd _ rfl (.tmp 95) (.tmp 101) 34 rfl base 43 i0 _ 8 104 Tryd.underlying34 HTI.out HZ0.out HZ1.out HZ2.out rfl (by omega) (.slice A Gd.length c) Gd.length _ rfl (own_below HQ6.out.own (by go_grown)) _ (some ⟨V6.heap.size, 0, none⟩) 1 1 _ rfl (Rd.fresh (D := AnyD) (n := 1) rfl trivial rfl (by decide)) hone (by omega) (maxLen_le (by omega)) (by simp; omega) ?_); intro A7 c7 w7 hown7 hg7 hat7)
            have HG7 := hid hg7
            have HO7 := hid hown7
            clear hown7 hg7 hat7
            go_roundw
            case rel =>
              refine ⟨i + 1, A7, c7, sl ++ [(A1, c1)], HLT.out, by rw [HFS.out, if_pos HE.out, List.append_nil, HKL.out], by rw [HGS.out, if_pos HE.out, List.length_append]; rfl, by go_num, ?_, ?_⟩
              · rw [HGS.out, if_pos HE.out, HRI.out]
                exact QRow.app (HQ6.out.below (by go_grown)) HG7.out (by rw [List.length_append]; rfl) HO7.out ((HARG.out.belowD (by go_grown)).mono fun k hk _ => Nat.lt_trans hk HBS.out.2.2)
              · exact Below.grown (HBB6.out.alloc hbx _) HG7.out (by simp; omega) fun k hk => (own_ge HQ6.out.own hk).1
            case measure => have := HLT.out; simp [intOf]; omega
      · have HE := hid he
        obtain ⟨ev, hev⟩ : ∃ ev, reqErr l rs i = ev := ⟨_, rfl⟩
        have HY := HYES.out hlt he
        have hkl := HY.1
        have hFk := HY.2
        clear HY
        rw [hev] at hFk he
        have HFK := hid hFk
        have hkk : (k : Int) < F.length := by omega
        clear hFk
        have he0 : (ev == 0) = false := by simpa using he
        obtain ⟨L, hL⟩ : ∃ L, checkZ l [r] = L := ⟨_, rfl⟩
        have HAL := hid hL
        obtain ⟨q, hq⟩ : ∃ q, L.length = q := ⟨_, rfl⟩
        have HQL := hid hq
        have HEV := hid hev
        clear hL hq hev he
        by_cases h4 : ev = 4
        · subst h4
          clear he0
          have HCKA := hid (fun (W : World) (hb : Below wr.heap.size wr W) => check_lit (m := 1) (D := AnyD) (E := (· < w.heap.size)) (l := l) (rs := [r]) L q HAL.out HQL.out rfl (HCR.out.below hb).l rfl (HCUT.out W hb) (HCR.out.below hb).g (HCR.out.below hb).k)
          have HCELL : Hid (∀ W' : World, Below wr.heap.size wr W' → W'.cell? ⟨w.heap.size, 0, none⟩ = some (.slice AS l.length cS) ∧ W'.cell? ⟨w.heap.size, 1, none⟩ = some (.slice (some ⟨b, o, none⟩) rs.length cR)) := hid fun W' hb => let h := (HCR.out.below hb).s.cells; ⟨h.1, h.2.1⟩
          go_upto_region 10 with (fail)
          go_region_held3 (fun W' : World => W'.cell? ⟨w.heap.size, 0, none⟩ = some (.slice AS l.length cS) ∧ W'.cell? ⟨w.heap.size, 1, none⟩ = some (.slice (some ⟨b, o, none⟩) rs.length cR))
            (first | (with_reducible exact HCELL.out _ HB6.out) | (go_keep; done))
            ((go_at_call 12; (with_reducible refine (HCKA.out _ ?_).mono ?_); (first | exact Below.refl _ _ | go_grown | exact (Drawn.n _ _).below _); rintro e V6 ⟨A6, c6, rfl, hT6, hb6⟩; have HB6 := hid ((show Below wr.heap.size wr _ by first | exact Below.refl _ _ | go_grown | exact (Drawn.n _ _).below _).trans (hb6.mono (by first | exact Nat.le_refl _ | simp))); clear hb6))
          all_goals
            clear hT6 s0 s1 s2
            have HC6 := hid (HCR.out.below HB6.out)
            have HR6 := hid (HRR.out.any HB6.out)
            have HBB6 := hid (HBR.out.trans (HB6.out.mono (Nat.le_trans HBS.out.1 HBR.out.size)))
            have HQ6 := hid (HQ.out.below HB6.out)
            have hbx : base ≤ V6.heap.size := by have := HBS.out.1; have := HBB6.out.size; omega
            obtain ⟨fb, fo, x, rfl, -, hlf, HX, x0, x1⟩ := HC6.out.f.get hkl
            have hx : x = ((i : Int), 4) := by rw [← HX.out, HFK.out]
            subst hx
            dsimp only at x0 x1
            go_upto_region 12 with (fail)
            go_quiet (fail)
            all_goals
              go_wp2_with fail
              go_roundw
              case rel =>
                refine ⟨i + 1, A, c, sl, HLT.out, by rw [HFS.out, if_neg (by rw [HEV.out]; first | decide | simpa using he0), List.length_append, HKL.out]; rfl, by rw [HGS.out, if_neg (by rw [HEV.out]; first | decide | simpa using he0), List.append_nil], by go_num, ?_, ?_⟩
                · rw [HGS.out, if_neg (by rw [HEV.out]; first | decide | simpa using he0), List.append_nil]
                  exact HQ6.out.below (by first | exact Below.refl _ _ | exact (Drawn.n _ _).below _ | go_grown)
                · exact HBB6.out.trans (by first | exact Below.refl _ _ | exact (Drawn.n _ _).below _ | go_grown)
              case measure => have := HLT.out; simp [intOf]; omega
        · have HAL1 : L = [(0, ev)] := by
            have h4' : reqErr l rs i ≠ 4 := by rw [HEV.out]; exact h4
            have ha := reqErr_alone h4'
            rw [HRI.out, HEV.out] at ha
            have h := check_alone HVSL.out r
            rw [HAL.out, ← ha, if_neg (by simpa using he0)] at h
            exact h
          subst HAL1
          have hq1 : q = 1 := HQL.out.symm
          subst hq1
          have h44 : (ev != 4) = true := bneI_t h4
          have hee : (ev != ev) = false := by simp
          clear h4
          have HCKA := hid (fun (W : World) (hb : Below wr.heap.size wr W) => check_lit (m := 1) (D := AnyD) (E := (· < w.heap.size)) (l := l) (rs := [r]) [(0, ev)] 1 HAL.out rfl rfl (HCR.out.below hb).l rfl (HCUT.out W hb) (HCR.out.below hb).g (HCR.out.below hb).k)
          have HCELL : Hid (∀ W' : World, Below wr.heap.size wr W' → W'.cell? ⟨w.heap.size, 0, none⟩ = some (.slice AS l.length cS) ∧ W'.cell? ⟨w.heap.size, 1, none⟩ = some (.slice (some ⟨b, o, none⟩) rs.length cR)) := hid fun W' hb => let h := (HCR.out.below hb).s.cells; ⟨h.1, h.2.1⟩
          go_upto_region 10 with (fail)
          go_region_held3 (fun W' : World => W'.cell? ⟨w.heap.size, 0, none⟩ = some (.slice AS l.length cS) ∧ W'.cell? ⟨w.heap.size, 1, none⟩ = some (.slice (some ⟨b, o, none⟩) rs.length cR))
            (first | (with_reducible exact HCELL.out _ HB6.out) | (go_keep; done))
            ((go_at_call 12; (with_reducible refine (HCKA.out _ ?_).mono ?_); (first | exact Below.refl _ _ | go_grown | exact (Drawn.n _ _).below _); rintro e V6 ⟨A6, c6, rfl, hT6, hb6⟩; have HB6 := hid ((show Below wr.heap.size wr _ by first | exact Below.refl _ _ | go_grown | exact (Drawn.n _ _).below _).trans (hb6.mono (by first | exact Nat.le_refl _ | simp))); clear hb6))
          all_goals
            clear s0 s1 s2
            have HC6 := hid (HCR.out.below HB6.out)
            have HR6 := hid (HRR.out.any HB6.out)
            have HBB6 := hid (HBR.out.trans (HB6.out.mono (Nat.le_trans HBS.out.1 HBR.out.size)))
            have HQ6 := hid (HQ.out.below HB6.out)
            have hbx : base ≤ V6.heap.size := by have := HBS.out.1; have := HBB6.out.size; omega
            obtain ⟨fb, fo, x, rfl, -, hlf, HX, x0, x1⟩ := HC6.out.f.get hkl
            have hx : x = ((i : Int), ev) := by rw [← HX.out, HFK.out]
            subst hx
            obtain ⟨gb, go, y, rfl, -, hlg, HY, y0, y1⟩ := hT6.get (k := 0) (Nat.succ_pos _)
            have hy : y = (0, ev) := HY.out.symm
            subst hy
            dsimp only at x0 x1 y0 y1
            go_upto_region 12 with (fail)
            go_quiet (fail)
            all_goals
              go_wp2_with fail
              go_roundw
              case rel =>
                refine ⟨i + 1, A, c, sl, HLT.out, by rw [HFS.out, if_neg (by rw [HEV.out]; first | decide | simpa using he0), List.length_append, HKL.out]; rfl, by rw [HGS.out, if_neg (by rw [HEV.out]; first | decide | simpa using he0), List.append_nil], by go_num, ?_, ?_⟩
                · rw [HGS.out, if_neg (by rw [HEV.out]; first | decide | simpa using he0), List.append_nil]
                  exact HQ6.out.below (by first | exact Below.refl _ _ | exact (Drawn.n _ _).below _ | go_grown)
                · exact HBB6.out.trans (by first | exact Below.refl _ _ | exact (Drawn.n _ _).below _ | go_grown)
              case measure => have := HLT.out; simp [intOf]; omega
    · have hii : ¬ (i : Int) < rs.length := by omega
      have hie : i = rs.length := by omega
      have hke := HEND.out hie
      have hge := HGE.out hie
      subst hke
      have HCK := hid (fun (W : World) (hb : Below wr.heap.size wr W) => check_lit (D := AnyD) (E := AnyD) (l := l) (rs := Gd) [] 0 hge rfl rfl (HCR.out.below hb).l rfl ((HQ.out.below hb).rd (by omega)) (HCR.out.below hb).g (HCR.out.below hb).k)
      clear hge hie
      go_wp2_with (go_at_call 12; (with_reducible refine (HCK.out _ (by first | exact Below.refl _ _ | go_grown)).mono ?_); rintro e V6 ⟨A6, c6, rfl, _, hb6⟩; have HB6 := hid hb6; clear hb6)
      go_ret
      exact ⟨rfl, HBWR.out.trans (HB6.out.mono HBWR.out.size)⟩
end Go.Proofs.YtdakdpfofgkjoaaDoor
