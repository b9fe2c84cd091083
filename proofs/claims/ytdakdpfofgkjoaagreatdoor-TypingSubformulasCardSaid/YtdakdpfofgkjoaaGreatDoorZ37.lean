/-
  Walk of typing.Check.
-/
import Derived.Test.YtdakdpfofgkjoaaGreatDoorZ36
import Derived.Test.YtdakdpfofgkjoaaGreatDoorZ33
import Derived.Test.YtdakdpfofgkjoaaGreatDoorZ17
set_option linter.unusedVariables false
set_option linter.unusedSimpArgs false
namespace Go.Proofs.YtdakdpfofgkjoaaGreatDoor
open Go.RowKit Go.Shelf
attribute [local go_sem] cell_alloc_old run_store_func

theorem build_fault (a b : Int) (w : World) : (Instr.build 58 #[(0, .int .i64 a), (1, .int .i64 b)]).run Tryz.prog w = .ok (.agg #[.int .i64 a, .int .i64 b]) w := run_build w 58 _ _ (by kernel_rfl)
attribute [local go_sem] build_fault
theorem fault_info : (Tryz.prog.info? 58).map (fun i => (i.zero, i.size, i.bytes)) = some (some (.agg #[.int .i64 0, .int .i64 0]), 2, 16) := by kernel_rfl
theorem tcells_one (x : Int × Int) : ∀ u ∈ tcells x, u.oneCell' = true := by
  intro u hu
  simp only [tcells, List.mem_cons, List.not_mem_nil, or_false] at hu
  rcases hu with rfl | rfl <;> rfl
/-- The list of faults so far, in memory of the call's own. -/
def OutT (w : World) (base : Nat) (v : Value) (L : List (Int × Int)) : Prop := ∃ A c, v = .slice A L.length c ∧ w.ownsRow base 58 2 (.slice A L.length c) L.length (L.flatMap tcells)
theorem OutT.nil (w : World) (base : Nat) : OutT w base (.slice none 0 0) [] := ⟨none, 0, rfl, rfl, .inl ⟨rfl, rfl⟩⟩
theorem OutT.below {w w' : World} {base : Nat} {v : Value} {L : List (Int × Int)} (h : OutT w base v L) (hb : Below w.heap.size w w') : OutT w' base v L := let ⟨A, c, e, h1⟩ := h; ⟨A, c, e, own_below h1 hb⟩
theorem Below.fault {w w' : World} (B : Nat) (h : Below B w w') (hB : B ≤ w.heap.size) (hb : w.heap.size ≤ B) : Below w.heap.size w w' := h.mono hb
/-- What Check's loops rest on. -/
structure ChkB (w : World) (l : List Sg) (rs : List Rq) (sb rb pb fb mb : Nat) (AS : Option Addr) (cS : Nat) (AR : Option Addr) (cR : Nat) : Prop where
  g : GF w
  k : GK w
  s : SpecAt w sb AS l.length cS AR rs.length cR
  ru : RulesAt w rb pb fb mb sb (rqNames rs)
  l : RdG w AnyD AS cS l
  r : RdR w AnyD AR cR rs
theorem ChkB.below {w w' : World} {l : List Sg} {rs : List Rq} {sb rb pb fb mb : Nat} {AS : Option Addr} {cS : Nat} {AR : Option Addr} {cR : Nat} (h : ChkB w l rs sb rb pb fb mb AS cS AR cR) (hb : Below w.heap.size w w') : ChkB w' l rs sb rb pb fb mb AS cS AR cR :=
  ⟨h.g.below hb h.g.pos, h.k.below hb h.k.pos, h.s.below hb, h.ru.below hb, h.l.any hb, h.r.any hb⟩
set_option maxRecDepth 100000 in
set_option maxHeartbeats 8000000 in
theorem check_any {D E : Dom} (l : List Sg) (rs : List Rq) (AS : Option Addr) (n cS : Nat) (AR : Option Addr) (m cR : Nat) (w : World) (hn : n = l.length) (hl : RdG w D AS cS l) (hm : m = rs.length) (hr : RdR w E AR cR rs) (hg : GF w) (hk : GK w) :
    Calls Tryz.prog 13 #[.agg #[.slice AS n cS, .slice AR m cR]] w fun e w' => ∃ A c, e = .returned (.slice A (checkZ l rs).length c) ∧ RdT w' (fun b => w.heap.size ≤ b) A c (checkZ l rs) ∧ Below w.heap.size w w' := by
  subst hn hm
  have hlen := hl.len.1
  have hlen2 := hr.len.1
  have HL := hid hl.old
  have HR := hid hr.old
  have HG := hid hg
  have HK := hid hk
  clear hl hr hg hk
  obtain ⟨i0, hti, hz0, hz1, hz2⟩ := info_parts fault_info
  have HTI := hid hti
  have HZ0 := hid hz0
  have HZ1 := hid hz1
  have HZ2 := hid hz2
  clear hti hz0 hz1 hz2
  go_enter Tryz.func13, Tryz.ntmps13
  go_upto_region 1 with (fail)
  refine wp_gen fun W hW => ?_
  have HB := hid (show Below w.heap.size w W by rw [hW]; go_grown)
  have HS := hid (show SpecAt W w.heap.size AS l.length cS AR rs.length cR by show W.heap[_]? = _; rw [hW]; exact at_new _ _ _ rfl)
  have HWS := hid (show W.heap.size = w.heap.size + 1 by rw [hW]; simp)
  clear hW
  obtain ⟨s0, s1, s2⟩ := HS.out.cells
  have HSV := hid (svalid_any l AS cS l.length W rfl (HL.out.any HB.out) (HK.out.below HB.out HK.out.pos))
  have AV : ∀ {r : Bool}, True := fun {_} => trivial
  clear AV
  cases hv : validS l
  · have HRR := hid (show checkZ l rs = [(-1, 1)] by unfold checkZ; rw [hv]; rfl)
    rw [hv] at HSV
    clear hv
    go_wp2_with (go_at_call 36; (with_reducible refine HSV.out.mono ?_); rintro e V ⟨rfl, hbV⟩; have HBV := hid (HB.out.trans (hbV.mono HB.out.size)); clear hbV)
    refine bodyPost_gen fun W9 hW9 => ?_
    have hrd : RdT W9 (fun b => w.heap.size ≤ b) (some ⟨V.heap.size, 0, none⟩) 1 [(-1, 1)] := by
      rw [hW9]
      exact Rd.fresh (D := fun b => w.heap.size ≤ b) (cs := #[.int .i64 (-1), .int .i64 1]) (n := 1) rfl HBV.out.size rfl (by decide)
    have hb9 : Below w.heap.size w W9 := by rw [hW9]; exact HBV.out.alloc HBV.out.size _
    clear hW9
    go_ret
    rw [HRR.out]
    exact ⟨_, _, rfl, hrd, hb9⟩
  rw [hv] at HSV
  have HVS := hid hv
  clear hv
  have AV := hid (show True from trivial)
  by_cases h16 : 16 < rs.length
  · have HRR := hid (show checkZ l rs = [(-1, 2)] by unfold checkZ; rw [HVS.out, if_pos rfl, if_neg (by omega)])
    have h16i : 16 < (rs.length : Int) := by omega
    clear h16
    go_wp2_with (go_at_call 36; (with_reducible refine HSV.out.mono ?_); rintro e V ⟨rfl, hbV⟩; have HBV := hid (HB.out.trans (hbV.mono HB.out.size)); obtain ⟨t0, t1, t2⟩ := (HS.out.below hbV).cells; clear hbV s0 s1 s2)
    refine bodyPost_gen fun W9 hW9 => ?_
    have hrd : RdT W9 (fun b => w.heap.size ≤ b) (some ⟨V.heap.size, 0, none⟩) 1 [(-1, 2)] := by
      rw [hW9]
      exact Rd.fresh (D := fun b => w.heap.size ≤ b) (cs := #[.int .i64 (-1), .int .i64 2]) (n := 1) rfl HBV.out.size rfl (by decide)
    have hb9 : Below w.heap.size w W9 := by rw [hW9]; exact HBV.out.alloc HBV.out.size _
    clear hW9
    go_ret
    rw [HRR.out]
    exact ⟨_, _, rfl, hrd, hb9⟩
  have HCZ := hid (show checkZ l rs = faultsTo l rs rs.length by unfold checkZ; rw [HVS.out, if_pos rfl, if_pos (by omega)])
  have h16i : ¬ 16 < (rs.length : Int) := by omega
  have H16 := hid (show rs.length ≤ 16 by omega)
  clear h16
  have HRU := hid (fun (V : World) (hb : Below W.heap.size W V) => rules_any (E := AnyD) rs w.heap.size AS l.length cS AR rs.length cR V (HS.out.below hb) rfl (HR.out.any (HB.out.trans (hb.mono HB.out.size))))
  go_upto_region 7 with (first | (go_at_call 36; (with_reducible refine HSV.out.mono ?_); rintro e V ⟨rfl, hbV⟩; have HBV := hid hbV; obtain ⟨t0, t1, t2⟩ := (HS.out.below hbV).cells; clear hbV s0 s1 s2) | (go_at_call 42; (with_reducible refine (HRU.out _ HBV.out).mono ?_); rintro e V2 ⟨rb, pb, fb, mb, rfl, hru, hb2⟩; have HRUL := hid hru; have HB2 := hid (HBV.out.trans (hb2.mono HBV.out.size)); clear hru hb2 t0 t1 t2))
  have HBW := hid (HB.out.trans (HB2.out.mono HB.out.size))
  have HC := hid (show ChkB V2 l rs w.heap.size rb pb fb mb AS cS AR cR from ⟨HG.out.below HBW.out HG.out.pos, HK.out.below HBW.out HK.out.pos, HS.out.below HB2.out, HRUL.out, HL.out.any HBW.out, HR.out.any HBW.out⟩)
  obtain ⟨base, hbase⟩ : ∃ base, base = V2.heap.size := ⟨_, rfl⟩
  have HBS := hid (show base ≤ V2.heap.size ∧ V2.heap.size ≤ base ∧ w.heap.size < base by have := HB2.out.size; have := HWS.out; omega)
  clear hbase
  obtain ⟨t0, t1, t2⟩ := HC.out.s.cells
  clear HSV HRU AV HRUL HB2 HBV HS HWS
  go_wp2_with fail
  clear t0 t1 t2
  go_loopw [3, 25] (fun p q wr => ∃ i : Nat, i ≤ rs.length ∧ q = .int .i64 (i : Int) ∧ Hid (OutT wr base p (faultsTo l rs i)) ∧ Hid (Below base V2 wr)) (fun _ q _ => rs.length - (intOf q).toNat)
  case atStart => exact ⟨0, Nat.zero_le _, rfl, OutT.nil _ _, Below.refl _ _⟩
  case round =>
    obtain ⟨i, hi, rfl, HO, HBR⟩ := hrel
    obtain ⟨A, c, rfl, hown⟩ := HO.out
    obtain ⟨wo, hwo⟩ : ∃ wo, wo = wr := ⟨_, rfl⟩
    rw [← hwo] at HBR hown ⊢
    clear hwo HO
    have HOW := hid hown
    have HCR := hid (HC.out.below (HBR.out.mono HBS.out.2.1))
    clear hown
    obtain ⟨F, hF⟩ : ∃ F, faultsTo l rs i = F := ⟨_, rfl⟩
    rw [hF] at HOW
    have HF := hid hF
    have hF16 : F.length ≤ 16 := by rw [← hF]; have := faultsTo_len l rs i; have := H16.out; omega
    rw [hF]
    clear hF
    by_cases hlt : i < rs.length
    · have hii : (i : Int) < rs.length := by omega
      have HLT := hid hlt
      go_wp2_with fail
      go_loopw [3, 30] (fun p q wx => ∃ j : Nat, j ≤ 3 ∧ p = .slice A F.length c ∧ q = .int .i64 (j : Int) ∧ Hid (Below wo.heap.size wo wx) ∧ Hid (1 ≤ j → wErr (rs.getD i default) = 0) ∧ Hid (2 ≤ j → (if firstN (rs.getD i default).name (rqNames rs) < i then (4 : Int) else 0) = 0) ∧ Hid (3 ≤ j → formErr l (rs.getD i default).f = 0)) (fun _ q _ => 3 - (intOf q).toNat)
      case atStart => exact ⟨0, by omega, rfl, rfl, Below.refl _ _, (fun h => by omega), (fun h => by omega), fun h => by omega⟩
      case round =>
        obtain ⟨j, hj, rfl, rfl, HBX, HJ1, HJ2, HJ3⟩ := hrel
        have HCX := hid (HCR.out.below HBX.out)
        obtain ⟨wx, hwx⟩ : ∃ wx, wx = wr := ⟨_, rfl⟩
        rw [← hwx] at HBX HCX ⊢
        clear hwx
        have HOX := hid (own_below HOW.out HBX.out)
        have HBB := hid (HBR.out.trans (HBX.out.mono (Nat.le_trans HBS.out.1 HBR.out.size)))
        have hbx : base ≤ wx.heap.size := by have := HBS.out.1; have := HBB.out.size; omega
        have r0 := block_cell HCX.out.ru.rb (i := 0) rfl
        have r1 := block_cell HCX.out.ru.rb (i := 1) rfl
        have r2 := block_cell HCX.out.ru.rb (i := 2) rfl
        have r3 := lt_of_block HCX.out.ru.rb
        by_cases hj3 : j < 3
        · have hjj : (j : Int) < 3 := by omega
          have hjc : j = 0 ∨ j = 1 ∨ j = 2 := by omega
          clear hj hj3 hjj
          rcases hjc with rfl | rfl | rfl
          · have HCALL : Hid (∀ W : World, Below wx.heap.size wx W → Calls Tryz.prog 70 #[.int .i64 (i : Int), .pointer (some ⟨pb, 0, none⟩)] W fun e w' => e = .returned (.int .i64 (wErr (rs.getD i default))) ∧ Below W.heap.size W w') := hid fun W hb => words_any rs i w.heap.size pb AS l.length cS AR rs.length cR W HLT.out (HCX.out.below hb).ru.pb (HCX.out.below hb).s rfl (HCX.out.below hb).r (HCX.out.below hb).k
            obtain ⟨ev, hev⟩ : ∃ ev, wErr (rs.getD i default) = ev := ⟨_, rfl⟩
            rw [hev] at HCALL
            have HE := hid hev
            clear hev r1 r2
            by_cases he0 : ev = 0
            · rw [he0] at HCALL HE
              clear he0
              go_wp2_with (go_at_call 70; (with_reducible refine (HCALL.out _ (by first | exact Below.refl _ _ | go_grown)).mono ?_); rintro e W4 ⟨rfl, hb4⟩; have HB4 := hid ((show Below wx.heap.size wx _ by first | exact Below.refl _ _ | go_grown).trans (hb4.mono (by first | exact Nat.le_refl _ | simp))); clear hb4)
              go_roundw
              case rel => exact ⟨1, by omega, rfl, by go_num, HBX.out.trans (HB4.out.mono HBX.out.size), (fun _ => HE.out), (fun h => by omega), (fun h => by omega)⟩
              case measure => simp [intOf]
            · have hen : (ev != 0) = true := bneI_t he0
              have HN := hid he0
              have HRE := hid (show reqErr l rs i = ev by
                rw [reqErr_eq, HE.out, if_pos HN.out])
              have hone := tcells_one ((i : Int), ev)
              clear he0
              go_wp2_with (first | (go_at_call 70; (with_reducible refine (HCALL.out _ (by first | exact Below.refl _ _ | go_grown)).mono ?_); rintro e W4 ⟨rfl, hb4⟩; have HB4 := hid ((show Below wx.heap.size wx _ by first | exact Below.refl _ _ | go_grown).trans (hb4.mono (by first | exact Nat.le_refl _ | simp))); clear hb4) | (at_builtin; go_must (refine wpList_append_rd _ rfl (.tmp 40) (.tmp 44) 37 rfl base 58 i0 _ 2 16 Tryz.underlying37 HTI.out HZ0.out HZ1.out HZ2.out rfl (by omega) (.slice A F.length c) F.length _ rfl (own_below (own_below HOX.out HB4.out) (by go_grown)) _ (some ⟨W4.heap.size, 0, none⟩) 1 1 _ rfl (Rd.fresh (D := AnyD) (n := 1) rfl trivial rfl (by decide)) hone (by omega) (maxLen_le (by omega)) (by have := HB4.out.size; simp; omega) ?_); intro A5 c5 w5 hown5 hg5 hat5))
              have HG5 := hid hg5
              have HO5 := hid hown5
              clear hown5 hg5 hat5
              go_roundw
              case rel =>
                refine ⟨i + 1, by have := HLT.out; omega, by go_num, ?_, ?_⟩
                · rw [faultsTo_succ, HF.out, HRE.out, if_neg HN.out]
                  refine ⟨A5, c5, by rw [List.length_append]; rfl, ?_⟩
                  have h5 := HO5.out
                  rw [List.length_append, List.flatMap_append]
                  exact h5
                · refine Below.grown (HBB.out.trans ((HB4.out.alloc HB4.out.size _).mono hbx)) HG5.out (by have := HB4.out.size; simp; omega) fun k hk => (own_ge HOX.out hk).1
              case measure => have := HLT.out; simp [intOf]; omega
          · have HCALL : Hid (∀ W : World, Below wx.heap.size wx W → Calls Tryz.prog 71 #[.int .i64 (i : Int), .pointer (some ⟨fb, 0, none⟩), .pointer (some ⟨pb, 0, none⟩)] W fun e w' => e = .returned (.int .i64 ((if firstN (rs.getD i default).name (rqNames rs) < i then (4 : Int) else 0))) ∧ Below W.heap.size W w') := hid fun W hb => twice_any rs i w.heap.size pb fb mb AS l.length cS AR rs.length cR W HLT.out (HCX.out.below hb).ru.pb (HCX.out.below hb).ru.fb (HCX.out.below hb).ru.map (HCX.out.below hb).s rfl (HCX.out.below hb).r
            obtain ⟨ev, hev⟩ : ∃ ev, (if firstN (rs.getD i default).name (rqNames rs) < i then (4 : Int) else 0) = ev := ⟨_, rfl⟩
            rw [hev] at HCALL
            have HE := hid hev
            clear hev r0 r2
            by_cases he0 : ev = 0
            · rw [he0] at HCALL HE
              clear he0
              go_wp2_with (go_at_call 71; (with_reducible refine (HCALL.out _ (by first | exact Below.refl _ _ | go_grown)).mono ?_); rintro e W4 ⟨rfl, hb4⟩; have HB4 := hid ((show Below wx.heap.size wx _ by first | exact Below.refl _ _ | go_grown).trans (hb4.mono (by first | exact Nat.le_refl _ | simp))); clear hb4)
              go_roundw
              case rel => exact ⟨2, by omega, rfl, by go_num, HBX.out.trans (HB4.out.mono HBX.out.size), (fun _ => HJ1.out (by omega)), (fun _ => HE.out), (fun h => by omega)⟩
              case measure => simp [intOf]
            · have hen : (ev != 0) = true := bneI_t he0
              have HN := hid he0
              have HRE := hid (show reqErr l rs i = ev by
                rw [reqErr_eq, if_neg (by rw [HJ1.out (by omega)]; simp)]
                have h2 := HE.out
                by_cases hf : firstN (rs.getD i default).name (rqNames rs) < i
                · rw [if_pos hf] at h2 ⊢; exact h2
                · rw [if_neg hf] at h2; exact absurd h2.symm HN.out)
              have hone := tcells_one ((i : Int), ev)
              clear he0
              go_wp2_with (first | (go_at_call 71; (with_reducible refine (HCALL.out _ (by first | exact Below.refl _ _ | go_grown)).mono ?_); rintro e W4 ⟨rfl, hb4⟩; have HB4 := hid ((show Below wx.heap.size wx _ by first | exact Below.refl _ _ | go_grown).trans (hb4.mono (by first | exact Nat.le_refl _ | simp))); clear hb4) | (at_builtin; go_must (refine wpList_append_rd _ rfl (.tmp 40) (.tmp 44) 37 rfl base 58 i0 _ 2 16 Tryz.underlying37 HTI.out HZ0.out HZ1.out HZ2.out rfl (by omega) (.slice A F.length c) F.length _ rfl (own_below (own_below HOX.out HB4.out) (by go_grown)) _ (some ⟨W4.heap.size, 0, none⟩) 1 1 _ rfl (Rd.fresh (D := AnyD) (n := 1) rfl trivial rfl (by decide)) hone (by omega) (maxLen_le (by omega)) (by have := HB4.out.size; simp; omega) ?_); intro A5 c5 w5 hown5 hg5 hat5))
              have HG5 := hid hg5
              have HO5 := hid hown5
              clear hown5 hg5 hat5
              go_roundw
              case rel =>
                refine ⟨i + 1, by have := HLT.out; omega, by go_num, ?_, ?_⟩
                · rw [faultsTo_succ, HF.out, HRE.out, if_neg HN.out]
                  refine ⟨A5, c5, by rw [List.length_append]; rfl, ?_⟩
                  have h5 := HO5.out
                  rw [List.length_append, List.flatMap_append]
                  exact h5
                · refine Below.grown (HBB.out.trans ((HB4.out.alloc HB4.out.size _).mono hbx)) HG5.out (by have := HB4.out.size; simp; omega) fun k hk => (own_ge HOX.out hk).1
              case measure => have := HLT.out; simp [intOf]; omega
          · have HCALL : Hid (∀ W : World, Below wx.heap.size wx W → Calls Tryz.prog 72 #[.int .i64 (i : Int), .pointer (some ⟨pb, 0, none⟩)] W fun e w' => e = .returned (.int .i64 (formErr l (rs.getD i default).f)) ∧ Below W.heap.size W w') := hid fun W hb => content_any l rs i w.heap.size pb AS l.length cS AR rs.length cR W HLT.out (HCX.out.below hb).ru.pb (HCX.out.below hb).s rfl (HCX.out.below hb).l rfl (HCX.out.below hb).r (HCX.out.below hb).g (HCX.out.below hb).k
            obtain ⟨ev, hev⟩ : ∃ ev, formErr l (rs.getD i default).f = ev := ⟨_, rfl⟩
            rw [hev] at HCALL
            have HE := hid hev
            clear hev r0 r1
            by_cases he0 : ev = 0
            · rw [he0] at HCALL HE
              clear he0
              go_wp2_with (go_at_call 72; (with_reducible refine (HCALL.out _ (by first | exact Below.refl _ _ | go_grown)).mono ?_); rintro e W4 ⟨rfl, hb4⟩; have HB4 := hid ((show Below wx.heap.size wx _ by first | exact Below.refl _ _ | go_grown).trans (hb4.mono (by first | exact Nat.le_refl _ | simp))); clear hb4)
              go_roundw
              case rel => exact ⟨3, by omega, rfl, by go_num, HBX.out.trans (HB4.out.mono HBX.out.size), (fun _ => HJ1.out (by omega)), (fun _ => HJ2.out (by omega)), (fun _ => HE.out)⟩
              case measure => simp [intOf]
            · have hen : (ev != 0) = true := bneI_t he0
              have HN := hid he0
              have HRE := hid (show reqErr l rs i = ev by
                rw [reqErr_eq, if_neg (by rw [HJ1.out (by omega)]; simp)]
                have h2 := HJ2.out (by omega)
                by_cases hf : firstN (rs.getD i default).name (rqNames rs) < i
                · rw [if_pos hf] at h2; omega
                · rw [if_neg hf]; exact HE.out)
              have hone := tcells_one ((i : Int), ev)
              clear he0
              go_wp2_with (first | (go_at_call 72; (with_reducible refine (HCALL.out _ (by first | exact Below.refl _ _ | go_grown)).mono ?_); rintro e W4 ⟨rfl, hb4⟩; have HB4 := hid ((show Below wx.heap.size wx _ by first | exact Below.refl _ _ | go_grown).trans (hb4.mono (by first | exact Nat.le_refl _ | simp))); clear hb4) | (at_builtin; go_must (refine wpList_append_rd _ rfl (.tmp 40) (.tmp 44) 37 rfl base 58 i0 _ 2 16 Tryz.underlying37 HTI.out HZ0.out HZ1.out HZ2.out rfl (by omega) (.slice A F.length c) F.length _ rfl (own_below (own_below HOX.out HB4.out) (by go_grown)) _ (some ⟨W4.heap.size, 0, none⟩) 1 1 _ rfl (Rd.fresh (D := AnyD) (n := 1) rfl trivial rfl (by decide)) hone (by omega) (maxLen_le (by omega)) (by have := HB4.out.size; simp; omega) ?_); intro A5 c5 w5 hown5 hg5 hat5))
              have HG5 := hid hg5
              have HO5 := hid hown5
              clear hown5 hg5 hat5
              go_roundw
              case rel =>
                refine ⟨i + 1, by have := HLT.out; omega, by go_num, ?_, ?_⟩
                · rw [faultsTo_succ, HF.out, HRE.out, if_neg HN.out]
                  refine ⟨A5, c5, by rw [List.length_append]; rfl, ?_⟩
                  have h5 := HO5.out
                  rw [List.length_append, List.flatMap_append]
                  exact h5
                · refine Below.grown (HBB.out.trans ((HB4.out.alloc HB4.out.size _).mono hbx)) HG5.out (by have := HB4.out.size; simp; omega) fun k hk => (own_ge HOX.out hk).1
              case measure => have := HLT.out; simp [intOf]; omega
        · have hjj : ¬ (j : Int) < 3 := by omega
          have HRE := hid (show reqErr l rs i = 0 by
            rw [reqErr_eq, if_neg (by rw [HJ1.out (by omega)]; simp)]
            have h2 := HJ2.out (by omega)
            by_cases hf : firstN (rs.getD i default).name (rqNames rs) < i
            · rw [if_pos hf] at h2; omega
            · rw [if_neg hf]; exact HJ3.out (by omega))
          go_wp2_with fail
          go_roundw
          case rel =>
            refine ⟨i + 1, by have := HLT.out; omega, by go_num, ?_, HBB.out⟩
            rw [faultsTo_succ, HF.out, HRE.out, if_pos rfl, List.append_nil]
            exact ⟨A, c, rfl, HOX.out⟩
          case measure => have := HLT.out; simp [intOf]; omega
    · have hii : ¬ (i : Int) < rs.length := by omega
      have HCF := hid (show checkZ l rs = F by rw [HCZ.out, ← HF.out, show i = rs.length by omega])
      go_wp2_with fail
      go_ret
      rw [HCF.out]
      exact ⟨_, _, rfl, Rd.own HOW.out (by omega) (fun g hg => Nat.le_trans (Nat.le_of_lt HBS.out.2.2) hg), HBW.out.trans (HBR.out.mono (Nat.le_of_lt HBS.out.2.2))⟩
end Go.Proofs.YtdakdpfofgkjoaaGreatDoor
