/-
  Walk of TypingGoals.
-/
import Derived.Test.YtdakdpfofgkjoaaDoorZXU
import Derived.Test.YtdakdpfofgkjoaaDoorZXV
import Derived.Test.YtdakdpfofgkjoaaDoorZXW
set_option linter.unusedVariables false
set_option linter.unusedSimpArgs false
namespace Go.Proofs.YtdakdpfofgkjoaaDoor
open Go.RowKit Go.Shelf
attribute [local go_sem] cell_alloc_old build_sp

theorem conv_i32 (j : Nat) (h : j < 14) (w : World) : (Go.convert 3 21 (.int .i64 (97 + (j : Int)))).run Tryd.prog w = .ok (.int .i32 (97 + (j : Int))) w := by
  rw [run_convert_int w 3 21 .i64 _ (by kernel_rfl) (by kernel_rfl)]
  have e : Tryd.prog.intKind 21 = .i32 := by kernel_rfl
  rw [e]
  have : IntKind.i32.wrap (97 + (j : Int)) = 97 + (j : Int) := by
    have hc : j = 0 ∨ j = 1 ∨ j = 2 ∨ j = 3 ∨ j = 4 ∨ j = 5 ∨ j = 6 ∨ j = 7 ∨ j = 8 ∨ j = 9 ∨ j = 10 ∨ j = 11 ∨ j = 12 ∨ j = 13 := by omega
    rcases hc with rfl | rfl | rfl | rfl | rfl | rfl | rfl | rfl | rfl | rfl | rfl | rfl | rfl | rfl <;> decide
  rw [this]
theorem conv_str (j : Nat) (w : World) : (Go.convert 21 9 (.int .i32 (97 + (j : Int)))).run Tryd.prog w = .ok (.string (Utf8.encode (97 + (j : Int)))) w :=
  run_convert_int_string w 21 9 .i32 _ (by kernel_rfl) (by kernel_rfl)
theorem enc_size (j : Nat) (h : j < 14) : (Utf8.encode (97 + (j : Int))).size = 1 := by
  have hc : j = 0 ∨ j = 1 ∨ j = 2 ∨ j = 3 ∨ j = 4 ∨ j = 5 ∨ j = 6 ∨ j = 7 ∨ j = 8 ∨ j = 9 ∨ j = 10 ∨ j = 11 ∨ j = 12 ∨ j = 13 := by omega
  rcases hc with rfl | rfl | rfl | rfl | rfl | rfl | rfl | rfl | rfl | rfl | rfl | rfl | rfl | rfl <;> rfl
theorem enc_nm (j : Nat) (h : j < 14) : Utf8.encode (97 + (j : Int)) ++ ⟨#[95, 120]⟩ = nm j := by
  have hc : j = 0 ∨ j = 1 ∨ j = 2 ∨ j = 3 ∨ j = 4 ∨ j = 5 ∨ j = 6 ∨ j = 7 ∨ j = 8 ∨ j = 9 ∨ j = 10 ∨ j = 11 ∨ j = 12 ∨ j = 13 := by omega
  rcases hc with rfl | rfl | rfl | rfl | rfl | rfl | rfl | rfl | rfl | rfl | rfl | rfl | rfl | rfl <;> rfl
theorem and_lit {w : World} {A : Option Addr} {k c : Nat} {l : List Fm} (g : Fm) (hz : connZ 5 l = g) (h : RdA w AnyD l A c) (hl : k = l.length) (hs : sizes l ≤ 1000000) (hg : GF w) (hk : GK w) :
    Calls Tryd.prog 16 #[.slice A k c] w fun e w' => ∃ A' c', e = .returned (.agg #[.int .i64 g.op, .string g.name, .int .i64 g.val, .int .i64 g.bound, .slice A' g.args.length c']) ∧ VF w' g.op g.name g.val g.bound A' g.args.length c' g ∧ Below w.heap.size w w' :=
  (and_any h hl hs hg hk).mono fun e w' ⟨x, e1, hb, A', c', e2, h2⟩ => by
    rw [hz] at e2 h2
    exact ⟨A', c', by rw [e1, e2], VF.of h2, hb⟩
set_option maxRecDepth 100000 in
set_option maxHeartbeats 8000000 in
theorem goals_any {D E : Dom} (l : List Sg) (rs : List Rq) (AS : Option Addr) (n cS : Nat) (AR : Option Addr) (m cR : Nat) (w : World) (hn : n = l.length) (hl : RdG w D AS cS l) (hm : m = rs.length) (hr : RdR w E AR cR rs) (hg : GF w) (hk : GK w) :
    Calls Tryd.prog 5 #[.agg #[.slice AS n cS, .slice AR m cR]] w fun e w' => e = .returned (.bool true) ∧ Below w.heap.size w w' := by
  subst hn hm
  have hlen := hl.len.1
  have hlen2 := hr.len.1
  have HL := hid hl.old
  have HR := hid hr.old
  have HG := hid hg
  have HK := hid hk
  clear hl hr hg hk
  obtain ⟨i1, hui, hy0, hy1, hy2⟩ := info_parts formula_info
  have HUI := hid hui
  have HY0 := hid hy0
  have HY1 := hid hy1
  have HY2 := hid hy2
  clear hui hy0 hy1 hy2
  obtain ⟨i0, hti, hz0, hz1, hz2⟩ := info_parts req_info
  have HTI := hid hti
  have HZ0 := hid hz0
  have HZ1 := hid hz1
  have HZ2 := hid hz2
  clear hti hz0 hz1 hz2
  go_enter Tryd.func5, Tryd.ntmps5
  go_upto_region 1 with (fail)
  refine wp_gen fun W hW => ?_
  have HB := hid (show Below w.heap.size w W by rw [hW]; go_grown)
  have HS := hid (show SpecAt W w.heap.size AS l.length cS AR rs.length cR by show W.heap[_]? = _; rw [hW]; exact at_new _ _ _ rfl)
  have HWS := hid (show W.heap.size = w.heap.size + 1 by rw [hW]; simp)
  clear hW
  have HHD := hid (head7_any W (HG.out.below HB.out HG.out.pos) (HK.out.below HB.out HK.out.pos))
  go_upto_region 2 with (go_at_call 6; (with_reducible refine HHD.out.mono ?_); rintro e V ⟨rfl, hbV⟩; have HBV := hid hbV; clear hbV)
  have HBW := hid (HB.out.trans (HBV.out.mono HB.out.size))
  have HSV := hid (HS.out.below HBV.out)
  have HLV := hid (HL.out.any HBW.out)
  have HRV := hid (HR.out.any HBW.out)
  have HGV := hid (HG.out.below HBW.out HG.out.pos)
  have HKV := hid (HK.out.below HBW.out HK.out.pos)
  have HVS := hid (show w.heap.size + 1 ≤ V.heap.size by have := HBV.out.size; have := HWS.out; omega)
  clear HS HHD HBV HB
  obtain ⟨s0, s1, s2⟩ := HSV.out.cells
  have HFW := hid (few_any l rs AS l.length cS AR rs.length cR V rfl HLV.out rfl HRV.out)
  cases hfw : fewB l rs
  · rw [hfw] at HFW
    clear hfw
    go_wp2_with (go_at_call 11; (with_reducible refine HFW.out.mono ?_); rintro e V2 ⟨rfl, hb2⟩; have HB2 := hid (HBW.out.trans (hb2.mono HBW.out.size)); clear hb2)
    go_ret
    exact ⟨rfl, HB2.out⟩
  rw [hfw] at HFW
  clear hfw
  by_cases h14 : 14 < rs.length
  · have hi14 : 14 < (rs.length : Int) := by omega
    clear h14
    go_wp2_with (go_at_call 11; (with_reducible refine HFW.out.mono ?_); rintro e V2 ⟨rfl, hb2⟩; have HB2 := hid hb2; obtain ⟨t0, t1, t2⟩ := (HSV.out.below hb2).cells; clear hb2 s0 s1 s2)
    go_ret
    exact ⟨rfl, HBW.out.trans (HB2.out.mono HBW.out.size)⟩
  have hi14 : ¬ 14 < (rs.length : Int) := by omega
  have H14 := hid (show rs.length ≤ 14 by omega)
  clear h14
  obtain ⟨g, r, hgr⟩ : ∃ g r, goalZ l rs = (g, r) := ⟨_, _, rfl⟩
  have HGR := hid hgr
  clear hgr
  have HGO := hid (fun (V2 : World) (hb : Below V.heap.size V V2) => goal_lit (D := AnyD) (E := AnyD) (w := V2) (AS := AS) (AR := AR) (cS := cS) (cR := cR) g r HGR.out rfl (HLV.out.any hb) rfl (HRV.out.any hb) (HGV.out.below hb HGV.out.pos) (HKV.out.below hb HKV.out.pos))
  go_upto_region 5 with (first | (go_at_call 11; (with_reducible refine HFW.out.mono ?_); rintro e V2 ⟨rfl, hb2⟩; have HB2 := hid hb2; obtain ⟨t0, t1, t2⟩ := (HSV.out.below hb2).cells; clear hb2 s0 s1 s2) | (go_at_call 13; (with_reducible refine (HGO.out _ HB2.out).mono ?_); rintro e V4 ⟨A4, c4, rfl, hv4, hb4⟩; have HV4 := hid hv4; have HB4 := hid (HB2.out.trans (hb4.mono HB2.out.size)); clear hv4 hb4 t0 t1 t2))
  have HBW4 := hid (HBW.out.trans (HB4.out.mono HBW.out.size))
  obtain ⟨gb, hgb⟩ : ∃ gb, gb = V4.heap.size := ⟨_, rfl⟩
  refine wp_gen fun V5 hV5 => ?_
  have HB5 := hid (show Below V4.heap.size V4 V5 by rw [hV5]; go_grown)
  have HO5 := hid (show OB V5 gb g.op g.name g.val g.bound A4 g.args.length c4 by rw [hV5, hgb]; exact at_new _ _ _ rfl)
  have HVZ := hid (show V5.heap.size = gb + 1 by rw [hV5, hgb]; simp)
  have HV5 := hid (HV4.out.below HB5.out)
  have HB45 := hid (HB4.out.trans (HB5.out.mono HB4.out.size))
  have HBW5 := hid (HBW4.out.trans (HB5.out.mono HBW4.out.size))
  have HGB := hid (show V.heap.size ≤ gb ∧ w.heap.size + 1 ≤ gb by have := HB4.out.size; have := HVS.out; omega)
  rw [← hgb]
  clear hV5 hgb HFW HGO HB2
  obtain ⟨g0, g1, g2, g3, g4, g5⟩ := HO5.out.cells
  by_cases hr0 : r = 0
  case neg =>
    have hre : (r != 0) = true := bneI_t hr0
    have hgz : g = zeroF := by
      have h := goal_err (l := l) (rs := rs) (by rw [HGR.out]; exact hr0)
      rw [HGR.out] at h
      exact h
    have hgo : g.op = 0 := by rw [hgz]; rfl
    rw [hgo] at g0
    clear hgz hgo hr0
    go_wp2_with fail
    go_ret
    exact ⟨rfl, HBW5.out.trans ((Below.refl _ _).mono (by first | exact Nat.le_refl _ | exact HBW5.out.size))⟩
  subst hr0
  have HGL := hid (show GoalLaw l rs g by
    have h := goal_law (l := l) (rs := rs) H14.out (by rw [HGR.out])
    rw [HGR.out] at h
    exact h)
  obtain ⟨s0, s1, s2⟩ := (HSV.out.below HB45.out).cells
  clear g0 g1 g2 g3 g4 g5
  go_upto_region 10 with (fail)
  obtain ⟨pb, hpb⟩ : ∃ pb, pb = V5.heap.size := ⟨_, rfl⟩
  refine wp_gen fun V7 hV7 => ?_
  have HB7 := hid (show Below pb V5 V7 by rw [hV7, hpb]; go_grown)
  have HI7 := hid (show BackI V7 (pb + 1) pb AS l.length cS none 0 [] [] (some ⟨pb + 1, 0, none⟩) 0 [] [] from BackI.nil (Nat.lt_succ_self _) (Nat.le_refl _) (by show V7.heap[_]? = _; rw [hV7, hpb]; exact (at_old _ _ _ (by simp)).trans (at_new _ _ _ rfl)) (by rw [hV7, hpb]; exact at_new _ _ _ (by simp)))
  have HPB := hid (show pb ≤ V5.heap.size ∧ V5.heap.size ≤ pb ∧ gb < pb ∧ w.heap.size + 1 ≤ gb ∧ pb + 1 < V7.heap.size by have := HVZ.out; have := HGB.out; refine ⟨by omega, by omega, by omega, by omega, ?_⟩; rw [hV7]; simp; omega)
  have HC := hid (show GoaB V5 l rs w.heap.size gb pb AS cS AR cR g A4 c4 from ⟨HGV.out.below HB45.out HGV.out.pos, HKV.out.below HB45.out HKV.out.pos, HSV.out.below HB45.out, HO5.out, HLV.out.any HB45.out, (HRV.out.any HB45.out).old.mono fun k hk _ => by have := HPB.out; have hk' : k < V5.heap.size := hk; omega, HV5.out⟩)
  rw [← hpb]
  clear hV7 hpb s0 s1 s2
  obtain ⟨s0, s1, s2⟩ := (HC.out.below (HB7.out.mono HPB.out.2.1)).s.cells
  go_wp2_with fail
  clear s0 s1 s2
  go_loopw [7, 8, 9] (fun p q r wr => ∃ (k : Nat) (B : Option Addr) (d : Nat) (sm : List (Option Addr × Nat)) (A : Option Addr) (c : Nat) (sl : List (Option Addr × Nat)), k ≤ rs.length ∧ p = .slice A (guarsZ (backZ rs k)).length c ∧ q = .bool (!decide (partsZ (backZ rs k) = [])) ∧ r = .int .i64 ((rs.length : Int) - 1 - (k : Int)) ∧ Hid (BackI wr (pb + 1) pb AS l.length cS B d (backZ rs k) sm A c (guarsZ (backZ rs k)) sl) ∧ Hid (Below pb V5 wr)) (fun _ _ r _ => (intOf r + 1).toNat)
  case atStart => exact ⟨0, none, 0, [], some ⟨pb + 1, 0, none⟩, 0, [], Nat.zero_le _, rfl, rfl, by simp, HI7.out, HB7.out⟩
  case round =>
    obtain ⟨k, B, d, sm, A, c, sl, hk, rfl, rfl, rfl, HI, HBR⟩ := hrel
    have HCR := hid (HC.out.below (HBR.out.mono HPB.out.2.1))
    by_cases hlt : k < rs.length
    · --<<
      obtain ⟨j, hji, hjn, hjl, hj14⟩ : ∃ j : Nat, (rs.length : Int) - 1 - (k : Int) = (j : Int) ∧ rs.length - 1 - k = j ∧ j < rs.length ∧ j < 14 := ⟨rs.length - 1 - k, by omega, rfl, by omega, by have := H14.out; omega⟩
      have hwj : IntKind.i64.wrap ((j : Int) - 1) = (j : Int) - 1 := IntWalk.i64_in _ (by omega)
      have hj0 : (0 : Int) ≤ j := by omega
      have hjr : (j : Int) < rs.length := by omega
      have HLT := hid hlt
      have HJN := hid hjn
      have HJI := hid hji
      have HJ14 := hid hj14
      rw [hji]
      clear hji hjn hk hlt hj14
      obtain ⟨b, o, A1, c1, r, rfl, HX, hr1⟩ := HCR.out.r.get hjl
      have HRI := hid HX.out
      have HRR := hid hr1
      obtain ⟨-, hlb, n0, n1, n2, n3, n4, n5, n6, n7, -⟩ := hr1
      obtain ⟨s0, s1, s2⟩ := HCR.out.s.cells
      clear HX
      go_upto_region 14 with (fail)
      obtain ⟨rb, hrb⟩ : ∃ rb, rb = wr.heap.size := ⟨_, rfl⟩
      refine wp_gen fun U1 hU1 => ?_
      have HB1 := hid (show Below wr.heap.size wr U1 by rw [hU1]; go_grown)
      have HR1 := hid (show U1.heap[rb]? = some (.cells #[.string r.part, .string r.name, .int .i64 r.kind, .int .i64 r.f.op, .string r.f.name, .int .i64 r.f.val, .int .i64 r.f.bound, .slice A1 r.f.args.length c1] 43 (0, 0)) by rw [hU1, hrb]; exact at_new _ _ _ rfl)
      rw [← hrb]
      have HRZ := hid hrb
      clear hrb hU1 s0 s1 s2 n0 n1 n2 n3 n4 n5 n6 n7 hlb
      have y1 := block_cell HR1.out (i := 1) rfl
      have y0 := block_cell HR1.out (i := 0) rfl
      have y2 := lt_of_block HR1.out
      have y3 := block_free HR1.out (i := 1)
      have y4 := block_free HR1.out (i := 0)
      have hj26 : (j : Int) % 26 = (j : Int) := by have := HJ14.out; omega
      have hj97 : IntKind.i64.wrap (97 + (j : Int)) = 97 + (j : Int) := IntWalk.i64_in _ (by have := HJ14.out; omega)
      have hcv1 := fun W => conv_i32 j HJ14.out W
      have hcv2 := fun W => conv_str j W
      have HNM := hid (enc_nm j HJ14.out)
      have hns := enc_size j HJ14.out
      obtain ⟨S1, hS1⟩ : ∃ S1, Utf8.encode (97 + (j : Int)) = S1 := ⟨_, rfl⟩
      rw [hS1] at HNM hns
      simp only [hS1] at hcv2
      clear hS1
      go_upto_region 16 with (fail)
      refine wp_gen fun U3 hU3 => ?_
      have HB3 := hid (show Below wr.heap.size wr U3 by rw [hU3]; exact (HB1.out.setCell (by have := HRZ.out; show wr.heap.size ≤ rb; omega) _).setCell (by have := HRZ.out; show wr.heap.size ≤ rb; omega) _)
      have HR3 := hid (show U3.heap[rb]? = some (.cells #[.string sOther, .string (nm j), .int .i64 r.kind, .int .i64 r.f.op, .string r.f.name, .int .i64 r.f.val, .int .i64 r.f.bound, .slice A1 r.f.args.length c1] 43 (0, 0)) by rw [hU3, set_block (set_block HR1.out _) _, HNM.out]; rfl)
      clear hU3 y0 y1 y2 y3 y4 hcv1 hcv2 hns HNM hj26 hj97
      have HI3 := hid (HI.out.below HB3.out)
      have HBB3 := hid (HBR.out.trans (HB3.out.mono (by have := HBR.out.size; have := HPB.out; omega)))
      have hl14 : (backZ rs k).length ≤ 14 := by rw [backZ_len]; have := HLT.out; have := H14.out; omega
      have hpx : pb + 1 ≤ U3.heap.size := by have := lt_of_block HI3.out.sp; omega
      have hone := qcells_one (ren j r) (A1, c1)
      have y0 := block_cell HR3.out (i := 0) rfl
      have y1 := block_cell HR3.out (i := 1) rfl
      have y2 := block_cell HR3.out (i := 2) rfl
      have y3 := block_cell HR3.out (i := 3) rfl
      have y4 := block_cell HR3.out (i := 4) rfl
      have y5 := block_cell HR3.out (i := 5) rfl
      have y6 := block_cell HR3.out (i := 6) rfl
      have y7 := block_cell HR3.out (i := 7) rfl
      have y8 := lt_of_block HR3.out
      have p1 := block_cell HI3.out.sp (i := 1) rfl
      have p2 := lt_of_block HI3.out.sp
      go_upto_region 17 with (at_builtin; go_must (refine wpList_append_rd _ rfl (.tmp 72) (.tmp 74) 34 rfl (pb + 1) 43 i0 _ 8 104 Tryd.underlying34 HTI.out HZ0.out HZ1.out HZ2.out rfl (by omega) (.slice B (backZ rs k).length d) (backZ rs k).length _ rfl (own_below HI3.out.q (by go_grown)) _ (some ⟨U3.heap.size, 0, none⟩) 1 1 _ rfl (Rd.fresh (D := AnyD) (n := 1) rfl trivial rfl (by decide)) hone (by omega) (maxLen_le (by omega)) (by simp; omega) ?_); intro B7 d7 w7 hown7 hg7 hat7; have hsp7 := (hg7.block pb (by simp; omega) (fun e => by have := own_ge HI3.out.q e.symm; omega)).trans (HI3.out.sp.below ((Below.refl _ _).alloc (Nat.le_refl _) _)); have HSP7 := hid hsp7; have z0 := block_free HSP7.out (i := 1); have z1 := lt_of_block HSP7.out; have z2 := block_cell HSP7.out (i := 1) rfl; have HG7 := hid hg7; have HO7 := hid hown7; have HA7 := hid hat7; clear hsp7 hown7 hg7 hat7 p1 p2 y0 y1 y2 y3 y4 y5 y6 y7 y8)
      refine wp_gen fun U8 hU8 => ?_
      have HI8 := hid (show BackI U8 (pb + 1) pb AS l.length cS B7 d7 (backZ rs k ++ [ren j r]) (sm ++ [(A1, c1)]) A c (guarsZ (backZ rs k)) sl by
        rw [hU8]
        exact BackI.push (HI3.out.below ((Below.refl _ _).alloc (Nat.le_refl _) _)) HG7.out (by rw [List.length_append]; rfl) HO7.out HA7.out ((Chg.refl _ _).set _ _ (fun _ => rfl)) ((set_block HSP7.out _).trans rfl) ((HRR.out.args.belowD HB3.out).belowD ((Below.refl _ _).alloc (Nat.le_refl _) _)))
      have HB8 := hid (show Below pb V5 U8 by
        rw [hU8]
        exact (Below.grown (HBB3.out.alloc (by omega) _) HG7.out (by simp; omega) fun x hx => by have := (own_ge HI3.out.q hx).1; omega).setCell (Nat.le_refl _) _)
      have HX8 := hid (show RdA U8 (· < pb) r.f.args A1 c1 by
        have h := HI8.out.aq (backZ rs k).length (by rw [List.length_append]; exact Nat.lt_succ_self _)
        have e1 : (backZ rs k ++ [ren j r]).getD (backZ rs k).length default = ren j r := by simp [List.getD]
        have e2 : (sm ++ [(A1, c1)]).getD (backZ rs k).length (none, 0) = (A1, c1) := by rw [← HI.out.lq]; simp [List.getD]
        rw [e1, e2] at h
        exact h)
      have HR8 := hid (show U8.heap[rb]? = some (.cells #[.string sOther, .string (nm j), .int .i64 r.kind, .int .i64 r.f.op, .string r.f.name, .int .i64 r.f.val, .int .i64 r.f.bound, .slice A1 r.f.args.length c1] 43 (0, 0)) by
        have h1 := lt_of_block HI.out.sp
        have h2 := HRZ.out
        rw [hU8, Below.heap_setCell _ _ _ _ (by show rb ≠ pb; omega), HG7.out.block rb (by have := lt_of_block HR3.out; simp; omega) (fun e => by have := own_ge HI.out.q e.symm; omega)]
        exact (at_old _ _ _ (lt_of_block HR3.out)).trans HR3.out)
      have HC8 := hid (HC.out.below (HB8.out.mono HPB.out.2.1))
      have HV8 := hid (show pb < U8.heap.size from lt_of_block HI8.out.sp)
      clear hU8 z0 z1 z2 HO7 HG7 HA7 HSP7 HI3 HBB3 HR3 HB3 hone hl14 hpx
      have y2 := block_cell HR8.out (i := 2) rfl
      have y3 := block_cell HR8.out (i := 3) rfl
      have y4 := block_cell HR8.out (i := 4) rfl
      have y5 := block_cell HR8.out (i := 5) rfl
      have y6 := block_cell HR8.out (i := 6) rfl
      have y7 := block_cell HR8.out (i := 7) rfl
      have y8 := lt_of_block HR8.out
      have HKN := hid (kernel_any r.f _ U8 ⟨A1, c1, rfl, HX8.out⟩ HC8.out.g HC8.out.k)
      obtain ⟨kn, hkn⟩ : ∃ kn, (kernZ r.f).1 = kn := ⟨_, rfl⟩
      rw [hkn] at HKN
      have HKE := hid hkn
      clear hkn
      go_upto_region 18 with (go_at_call 14; (with_reducible refine HKN.out.mono ?_); rintro e W9 ⟨kv, rfl, hb9, A9, c9, rfl, ha9⟩; have HB9 := hid hb9; have HA9 := hid ha9; clear hb9 ha9)
      obtain ⟨kb, hkb⟩ : ∃ kb, kb = W9.heap.size := ⟨_, rfl⟩
      refine wp_gen fun U9 hU9 => ?_
      have HB9b := hid (show Below U8.heap.size U8 U9 by rw [hU9]; exact HB9.out.alloc HB9.out.size _)
      have HO9 := hid (show OB U9 kb kn.op kn.name kn.val kn.bound A9 kn.args.length c9 by rw [hU9, hkb]; exact at_new _ _ _ rfl)
      have HA9b := hid (show RdA U9 (fun x => U8.heap.size ≤ x) kn.args A9 c9 by
        rw [hU9]
        exact (HA9.out.mono (E := fun x => U8.heap.size ≤ x) fun x hx _ => hx.1).belowD ((Below.refl _ _).alloc (Nat.le_refl _) _))
      rw [← hkb]
      clear hU9 hkb HB9 HA9 y2 y3 y4 y5 y6 y7 y8
      have HI9 := hid (HI8.out.below HB9b.out)
      have HBB9 := hid (HB8.out.trans (HB9b.out.mono (Nat.le_of_lt HV8.out)))
      have HR9 := hid ((HB9b.out.block _ (lt_of_block HR8.out)).trans HR8.out)
      have y2 := block_cell HR9.out (i := 2) rfl
      have y8 := lt_of_block HR9.out
      have HBZ := hid (show backZ rs (k + 1) = backZ rs k ++ [ren j r] by rw [backZ_succ, HJN.out, HRI.out])
      have hgl : (guarsZ (backZ rs k)).length ≤ 14 := by have := guars_len (backZ rs k); rw [backZ_len] at this; have := HLT.out; have := H14.out; omega
      have hpx : pb + 1 ≤ U9.heap.size := by have := lt_of_block HI9.out.sp; omega
      have HKD := hid (show r.kind = 1 ∨ r.kind = 2 by
        have h := (goal_ok (l := l) (rs := rs) (by rw [HGR.out])).words r (by rw [← HRI.out]; exact getD_mem hjl)
        unfold wordsOk at h
        simp only [Bool.and_eq_true, Bool.or_eq_true, decide_eq_true_eq] at h
        exact h.1.1)
      have HPA : Hid (partsZ [ren j r] = if r.kind = 1 then [notZ kn] else []) := hid (by
        rw [← HKE.out]
        by_cases h : r.kind = 1 <;> simp [partsZ, ren, h])
      have HGA : Hid (guarsZ [ren j r] = if r.kind = 1 then [] else [kn]) := hid (by
        rw [← HKE.out]
        by_cases h : r.kind = 1 <;> simp [guarsZ, ren, h])
      by_cases hkd : r.kind = 1
      · have d2 : (r.kind == 2) = false := by rw [hkd]; rfl
        rw [if_pos hkd] at HPA HGA
        clear hkd
        go_wp2_with fail
        go_roundw
        case rel =>
          refine ⟨k + 1, B7, d7, sm ++ [(A1, c1)], A, c, sl, HLT.out, by rw [HBZ.out, guars_append, HGA.out, List.append_nil], by rw [HBZ.out, parts_append, HPA.out]; simp, by have := HJI.out; congr 1; omega, ?_, HBB9.out⟩
          rw [HBZ.out, guars_append, HGA.out, List.append_nil]
          exact HI9.out
        case measure => have := HJI.out; first | (simp [intOf]; done) | (simp [intOf]; omega)
      · have hk2 : r.kind = 2 := HKD.out.resolve_left hkd
        have d2 : (r.kind == 2) = true := by rw [hk2]; rfl
        rw [if_neg hkd] at HPA HGA
        clear hkd hk2
        have hone := fcells_one kn (A9, c9)
        obtain ⟨x0, x1, x2, x3, x4, x5⟩ := HO9.out.cells
        go_wp2_with (at_builtin; go_must (refine wpList_append_rd _ rfl (.tmp 86) (.tmp 88) 23 rfl (pb + 1) 25 i1 _ 5 64 Tryd.underlying23 HUI.out HY0.out HY1.out HY2.out rfl (by omega) (.slice A (guarsZ (backZ rs k)).length c) (guarsZ (backZ rs k)).length _ rfl (own_below HI9.out.f (by go_grown)) _ (some ⟨U9.heap.size, 0, none⟩) 1 1 _ rfl (Rd.fresh (D := AnyD) (n := 1) rfl trivial rfl (by decide)) hone (by omega) (maxLen_le (by omega)) (by simp; omega) ?_); intro AA cA wA hownA hgA hatA)
        have HG7 := hid hgA
        have HO7 := hid hownA
        have HA7 := hid hatA
        clear hownA hgA hatA
        go_roundw
        case rel =>
          refine ⟨k + 1, B7, d7, sm ++ [(A1, c1)], AA, cA, sl ++ [(A9, c9)], HLT.out, by rw [HBZ.out, guars_append, HGA.out, List.length_append]; rfl, by rw [HBZ.out, parts_append, HPA.out, List.append_nil], by have := HJI.out; congr 1; omega, ?_, ?_⟩
          · rw [HBZ.out, guars_append, HGA.out]
            refine BackI.more (HI9.out.below ((Below.refl _ _).alloc (Nat.le_refl _) _)) HG7.out (by rw [List.length_append]; rfl) HO7.out HA7.out ?_
            exact (HA9b.out.mono fun x hx _ => ⟨Nat.lt_of_lt_of_le HV8.out hx, fun e => by have := own_ge HI8.out.f e; omega, fun e => by have := own_ge HI8.out.q e; omega⟩).belowD ((Below.refl _ _).alloc (Nat.le_refl _) _)
          · exact Below.grown (HBB9.out.alloc (by omega) _) HG7.out (by simp; omega) fun x hx => by have := (own_ge HI9.out.f hx).1; omega
        case measure => have := HJI.out; first | (simp [intOf]; done) | (simp [intOf]; omega)
      -->>
    · have hke : k = rs.length := by omega
      subst hke
      have HBWR := hid (HBW5.out.trans (HBR.out.mono (by have := HPB.out; omega)))
      rw [show (rs.length : Int) - 1 - (rs.length : Int) = -1 by omega]
      have hl14 : (backZ rs rs.length).length ≤ 14 := by rw [backZ_len]; exact H14.out
      have HPE := hid (show partsZ (backZ rs rs.length) = [] ↔ partsZ rs = [] by
        constructor
        · intro h; exact List.eq_nil_iff_forall_not_mem.2 fun x hx => by have := (parts_back rs x).2 hx; rw [h] at this; cases this
        · intro h; exact List.eq_nil_iff_forall_not_mem.2 fun x hx => by have := (parts_back rs x).1 hx; rw [h] at this; cases this)
      obtain ⟨q, hq⟩ : ∃ q, backZ rs rs.length = q := ⟨_, rfl⟩
      have HQ := hid hq
      have HBK := hid HGL.out.back
      have HAL := hid HGL.out.alone
      have HTR := hid HGL.out.truth
      have HAS := hid HGL.out.assume_
      have HFA := hid HGL.out.false_
      rw [hq] at HI HBK HAL HTR HAS HFA HPE hl14 ⊢
      clear hq hk hlt HGL
      have HSZ := hid (show sizes (guarsZ q) ≤ 1000000 by
        have h1 := sizes_le (l := guarsZ q) (m := 60) fun f hf => by obtain ⟨r, _, _, rfl⟩ := guars_mem.1 hf; exact kern_size r.f
        have h2 := guars_len q
        omega)
      have hga14 : (guarsZ q).length ≤ 14 := by have := guars_len q; omega
      obtain ⟨GA, hGA⟩ : ∃ GA, guarsZ q = GA := ⟨_, rfl⟩
      rw [hGA] at HI HAL HSZ hga14 ⊢
      clear hGA
      obtain ⟨asm, hasm⟩ : ∃ asm : Bool, (!decide (partsZ q = [])) = asm := ⟨_, rfl⟩
      rw [hasm]
      have HASM := hid hasm
      clear hasm
      have p0 := block_cell HI.out.sp (i := 0) rfl
      have p1 := block_cell HI.out.sp (i := 1) rfl
      have p2 := lt_of_block HI.out.sp
      have HGB2 := hid (goal_lit (D := AnyD) (E := AnyD) (w := wr) (AS := AS) (AR := B) (cS := cS) (cR := d) g 0 HBK.out rfl HCR.out.l rfl (HI.out.rd (by omega)) HCR.out.g HCR.out.k)
      go_upto_region 22 with (go_at_call 13; (with_reducible refine HGB2.out.mono ?_); rintro e W1 ⟨AH, cH, rfl, hvh, hb1⟩; have HVH := hid hvh; have HB1 := hid hb1; clear hvh hb1 p0 p1 p2)
      obtain ⟨hb, hhb⟩ : ∃ hb, hb = W1.heap.size := ⟨_, rfl⟩
      refine wp_gen fun W2 hW2 => ?_
      have HB2 := hid (show Below wr.heap.size wr W2 by rw [hW2]; exact HB1.out.alloc HB1.out.size _)
      have HOH := hid (show OB W2 hb g.op g.name g.val g.bound AH g.args.length cH by rw [hW2, hhb]; exact at_new _ _ _ rfl)
      have HVH2 := hid (HVH.out.below (show Below W1.heap.size W1 W2 by rw [hW2]; go_grown))
      have HHB := hid (show wr.heap.size ≤ hb by rw [hhb]; exact HB1.out.size)
      rw [← hhb]
      clear hW2 hhb HB1 HVH HGB2
      have HC2 := hid (HCR.out.below HB2.out)
      have HI2 := hid (HI.out.below HB2.out)
      have HCELL : Hid (∀ W' : World, Below W2.heap.size W2 W' → W'.cell? ⟨gb, 0, none⟩ = some (.int .i64 g.op) ∧ W'.cell? ⟨gb, 1, none⟩ = some (.string g.name) ∧ W'.cell? ⟨gb, 2, none⟩ = some (.int .i64 g.val) ∧ W'.cell? ⟨gb, 3, none⟩ = some (.int .i64 g.bound) ∧ W'.cell? ⟨gb, 4, none⟩ = some (.slice A4 g.args.length c4) ∧ W'.cell? ⟨hb, 0, none⟩ = some (.int .i64 g.op) ∧ W'.cell? ⟨hb, 1, none⟩ = some (.string g.name) ∧ W'.cell? ⟨hb, 2, none⟩ = some (.int .i64 g.val) ∧ W'.cell? ⟨hb, 3, none⟩ = some (.int .i64 g.bound) ∧ W'.cell? ⟨hb, 4, none⟩ = some (.slice AH g.args.length cH)) := hid fun W' hb' => by
        obtain ⟨a0, a1, a2, a3, a4, _⟩ := (HC2.out.below hb').o.cells
        obtain ⟨b0, b1, b2, b3, b4, _⟩ := (HOH.out.below hb').cells
        exact ⟨a0, a1, a2, a3, a4, b0, b1, b2, b3, b4⟩
      have HSM := hid (fun (W' : World) (hb' : Below W2.heap.size W2 W') => same_lit (f := g) (f2 := g) true (by simp [cmp_self]) (HC2.out.v.below hb') (HVH2.out.below hb'))
      obtain ⟨g0, g1, g2, g3, g4, k0, k1, k2, k3, k4⟩ := HCELL.out _ (Below.refl _ _)
      have g5 : gb < W2.heap.size := by obtain ⟨_, _, _, _, _, h⟩ := HC2.out.o.cells; exact h
      have k5 : hb < W2.heap.size := by obtain ⟨_, _, _, _, _, h⟩ := HOH.out.cells; exact h
      go_upto_region 22 with (fail)
      rename_i K22 hK22
      refine wp_tail K22 (List.range' 95 19) (fun us W' => Below W2.heap.size W2 W' ∧ us 113 = .bool false) ?_ ?_
      · intro us W5 ⟨hb5, h113⟩
        have HB5 := hid hb5
        apply hK22
        simp only [putAll, List.range', List.range'_succ, Act.put, List.setIfInBounds_toArray, List.set_cons_zero, List.set_cons_succ, Nat.reduceAdd, h113]
        clear hK22 hb5 h113 g0 g1 g2 g3 g4 k0 k1 k2 k3 k4
        go_upto_region 25 with (fail)
        refine wp_gen fun U1 hU1 => ?_
        obtain ⟨tb, htb⟩ : ∃ tb, tb = W5.heap.size := ⟨_, rfl⟩
        have HBU1 := hid (show Below W2.heap.size W2 U1 by rw [hU1]; exact HB5.out.alloc HB5.out.size _)
        have HTTU1 := hid (show U1.heap[tb]? = some (TR 2 1) by rw [hU1, htb]; exact at_new _ _ _ rfl)
        have HTGU1 := hid (show W2.heap.size ≤ tb ∧ tb < U1.heap.size by rw [htb, hU1]; exact ⟨HB5.out.size, by simp⟩)
        rw [← htb]
        clear hU1 htb
        have HNZ := hid (goal_nz HTR.out)
        have HNZ2 := hid (show ∀ f, f ∈ (opF 1 []).args → ∃ ins, allI nzQ ins f from fun f hf => by cases hf)
        rename_i K25 hK25
        refine wp_tail K25 (16 :: 17 :: List.range' 116 14) (fun us W' => (∃ xb A9 c9, us 16 = .pointer (some ⟨xb, 0, none⟩) ∧ GBox U1 W' (g) xb A9 c9) ∧ us 17 = .int .i64 0 ∧ Below U1.heap.size U1 W') ?_ ?_
        rotate_left
        · intro HTAIL
          exact tg25 (hid (HC2.out.below HBU1.out)) (hid (HI2.out.below HBU1.out)) HTTU1 (hid HTGU1.out.2) HTR HNZ hl14 (hid HTAIL)
        rintro us W25 ⟨⟨x25, A25, c25, hx, hGB⟩, he, hbE⟩
        have HX25 := hid hGB
        have HE25 := hid hbE
        apply hK25
        simp only [putAll, List.range', List.range'_succ, Act.put, List.setIfInBounds_toArray, List.set_cons_zero, List.set_cons_succ, Nat.reduceAdd, hx, he]
        clear hK25 hGB hbE hx he
        have HT26 := hid ((HE25.out.block tb HTGU1.out.2).trans HTTU1.out)
        have z0 := block_cell HT26.out (i := 2) rfl
        have z1 := lt_of_block HT26.out
        have z2 := block_free HT26.out (i := 2)
        go_upto_region 27 with (fail)
        refine wp_gen fun U2 hU2 => ?_
        have HCH := hid (show Chg (fun x => x = tb) W25 U2 by rw [hU2]; exact (Chg.refl (fun x => x = tb) W25).set ⟨tb, _, none⟩ _ fun _ => rfl)
        have HBU2 := hid (((HBU1.out.trans (HE25.out.mono HBU1.out.size))).trans (HCH.out.below (B := W2.heap.size) (fun x hx e => by have := HTGU1.out.1; omega) ((HBU1.out.trans (HE25.out.mono HBU1.out.size)).size)))
        have HTTU2 := hid (show U2.heap[tb]? = some (TR 1 1) by rw [hU2, set_block HT26.out _]; rfl)
        have HTGU2 := hid (show W2.heap.size ≤ tb ∧ tb < U2.heap.size from ⟨HTGU1.out.1, lt_heap HTTU2.out⟩)
        replace HX25 := hid ((HX25.out).chg HCH.out HTGU1.out.2)
        clear hU2 z0 z1 z2 HCH
        rename_i K27 hK27
        refine wp_tail K27 (18 :: 19 :: List.range' 131 14) (fun us W' => (∃ xb A9 c9, us 18 = .pointer (some ⟨xb, 0, none⟩) ∧ GBox U2 W' (g) xb A9 c9) ∧ us 19 = .int .i64 0 ∧ Below U2.heap.size U2 W') ?_ ?_
        rotate_left
        · intro HTAIL
          exact tg27 (hid (HC2.out.below HBU2.out)) (hid (HI2.out.below HBU2.out)) HTTU2 (hid HTGU2.out.2) HAS HNZ hl14 (hid HTAIL)
        rintro us W27 ⟨⟨x27, A27, c27, hx, hGB⟩, he, hbE⟩
        have HX27 := hid hGB
        have HE27 := hid hbE
        apply hK27
        simp only [putAll, List.range', List.range'_succ, Act.put, List.setIfInBounds_toArray, List.set_cons_zero, List.set_cons_succ, Nat.reduceAdd, hx, he]
        clear hK27 hGB hbE hx he
        replace HX25 := hid (HX25.out.below HE27.out)
        have HT28 := hid ((HE27.out.block tb HTGU2.out.2).trans HTTU2.out)
        have z0 := block_cell HT28.out (i := 3) rfl
        have z1 := lt_of_block HT28.out
        have z2 := block_free HT28.out (i := 3)
        go_upto_region 29 with (fail)
        refine wp_gen fun U3 hU3 => ?_
        have HCH := hid (show Chg (fun x => x = tb) W27 U3 by rw [hU3]; exact (Chg.refl (fun x => x = tb) W27).set ⟨tb, _, none⟩ _ fun _ => rfl)
        have HBU3 := hid (((HBU2.out.trans (HE27.out.mono HBU2.out.size))).trans (HCH.out.below (B := W2.heap.size) (fun x hx e => by have := HTGU2.out.1; omega) ((HBU2.out.trans (HE27.out.mono HBU2.out.size)).size)))
        have HTTU3 := hid (show U3.heap[tb]? = some (TR 1 2) by rw [hU3, set_block HT28.out _]; rfl)
        have HTGU3 := hid (show W2.heap.size ≤ tb ∧ tb < U3.heap.size from ⟨HTGU2.out.1, lt_heap HTTU3.out⟩)
        replace HX25 := hid ((HX25.out).chg HCH.out HTGU1.out.2)
        replace HX27 := hid ((HX27.out).chg HCH.out HTGU2.out.2)
        clear hU3 z0 z1 z2 HCH
        rename_i K29 hK29
        refine wp_tail K29 (20 :: 21 :: List.range' 147 14) (fun us W' => (∃ xb A9 c9, us 20 = .pointer (some ⟨xb, 0, none⟩) ∧ GBox U3 W' (opF 1 []) xb A9 c9) ∧ us 21 = .int .i64 0 ∧ Below U3.heap.size U3 W') ?_ ?_
        rotate_left
        · intro HTAIL
          exact tg29 (hid (HC2.out.below HBU3.out)) (hid (HI2.out.below HBU3.out)) HTTU3 (hid HTGU3.out.2) HFA HNZ2 hl14 (hid HTAIL)
        rintro us W29 ⟨⟨x29, A29, c29, hx, hGB⟩, he, hbE⟩
        have HX29 := hid hGB
        have HE29 := hid hbE
        apply hK29
        simp only [putAll, List.range', List.range'_succ, Act.put, List.setIfInBounds_toArray, List.set_cons_zero, List.set_cons_succ, Nat.reduceAdd, hx, he]
        clear hK29 hGB hbE hx he
        replace HX25 := hid (HX25.out.below HE29.out)
        replace HX27 := hid (HX27.out.below HE29.out)
        have HB29 := hid (HBU3.out.trans (HE29.out.mono HBU3.out.size))
        have HV1 := hid (HX25.out.vf)
        have HV2 := hid (HX27.out.vf)
        have HVG := hid (HC2.out.v.below HB29.out)
        have HCE : Hid (∀ W' : World, Below W29.heap.size W29 W' → W'.cell? ⟨x25, 0, none⟩ = some (.int .i64 g.op) ∧ W'.cell? ⟨x25, 1, none⟩ = some (.string g.name) ∧ W'.cell? ⟨x25, 2, none⟩ = some (.int .i64 g.val) ∧ W'.cell? ⟨x25, 3, none⟩ = some (.int .i64 g.bound) ∧ W'.cell? ⟨x25, 4, none⟩ = some (.slice A25 g.args.length c25) ∧ W'.cell? ⟨gb, 0, none⟩ = some (.int .i64 g.op) ∧ W'.cell? ⟨gb, 1, none⟩ = some (.string g.name) ∧ W'.cell? ⟨gb, 2, none⟩ = some (.int .i64 g.val) ∧ W'.cell? ⟨gb, 3, none⟩ = some (.int .i64 g.bound) ∧ W'.cell? ⟨gb, 4, none⟩ = some (.slice A4 g.args.length c4) ∧ W'.cell? ⟨x27, 0, none⟩ = some (.int .i64 g.op) ∧ W'.cell? ⟨x27, 1, none⟩ = some (.string g.name) ∧ W'.cell? ⟨x27, 2, none⟩ = some (.int .i64 g.val) ∧ W'.cell? ⟨x27, 3, none⟩ = some (.int .i64 g.bound) ∧ W'.cell? ⟨x27, 4, none⟩ = some (.slice A27 g.args.length c27) ∧ W'.cell? ⟨x29, 0, none⟩ = some (.int .i64 1)) := hid fun W' hb' => by
          obtain ⟨a0, a1, a2, a3, a4, _⟩ := (HX25.out.below hb').ob.cells
          obtain ⟨b0, b1, b2, b3, b4, _⟩ := (HC2.out.o.below (belNx HB29.out hb')).cells
          obtain ⟨d0, d1, d2, d3, d4, _⟩ := (HX27.out.below hb').ob.cells
          obtain ⟨e0, _⟩ := (HX29.out.below hb').ob.cells
          exact ⟨a0, a1, a2, a3, a4, b0, b1, b2, b3, b4, d0, d1, d2, d3, d4, e0⟩
        obtain ⟨y0, y1, y2, y3, y4, y5, y6, y7, y8, y9, y10, y11, y12, y13, y14, y15⟩ := HCE.out _ (Below.refl _ _)
        go_wp2_with (first | (go_at_call 15; (with_reducible refine (same_lit (f := g) (f2 := g) true ?_ HV1.out HVG.out).mono ?_); (focus (simp [cmp_self]; done)); rintro e V5 ⟨rfl, hb5⟩; have HV5 := hid hb5; clear hb5; obtain ⟨z0, z1, z2, z3, z4, z5, z6, z7, z8, z9, z10, z11, z12, z13, z14, z15⟩ := HCE.out _ HV5.out) | (go_at_call 15; (with_reducible refine (same_lit (f := g) (f2 := g) true ?_ (HV2.out.below HV5.out) (HVG.out.below HV5.out)).mono ?_); (focus (simp [cmp_self]; done)); rintro e V6 ⟨rfl, hb6⟩; have HV6 := hid (belNx HV5.out hb6); clear hb6; obtain ⟨v0, v1, v2, v3, v4, v5, v6, v7, v8, v9, v10, v11, v12, v13, v14, v15⟩ := HCE.out _ HV6.out))
        go_ret
        exact ⟨rfl, belNx (belNx (belNx HBWR.out HB2.out) HB29.out) HV6.out⟩
      --<<
      intro HTAIL
      have HTL := hid HTAIL
      clear HTAIL hK22
      cases asm
      · -- no assumption
        have hal : g = connZ 5 GA := HAL.out (HPE.out.1 (by have h := HASM.out; simpa using h))
        have HAN := hid (fun (W' : World) (hb' : Below W2.heap.size W2 W') => and_lit (w := W') (A := A) (c := c) g hal.symm ((HI2.out.below hb').rdf (by omega)) rfl HSZ.out (HC2.out.below hb').g (HC2.out.below hb').k)
        clear hal
        first
          | go_region_held3 (fun W' : World => W'.cell? ⟨gb, 0, none⟩ = some (.int .i64 g.op) ∧ W'.cell? ⟨gb, 1, none⟩ = some (.string g.name) ∧ W'.cell? ⟨gb, 2, none⟩ = some (.int .i64 g.val) ∧ W'.cell? ⟨gb, 3, none⟩ = some (.int .i64 g.bound) ∧ W'.cell? ⟨gb, 4, none⟩ = some (.slice A4 g.args.length c4) ∧ W'.cell? ⟨hb, 0, none⟩ = some (.int .i64 g.op) ∧ W'.cell? ⟨hb, 1, none⟩ = some (.string g.name) ∧ W'.cell? ⟨hb, 2, none⟩ = some (.int .i64 g.val) ∧ W'.cell? ⟨hb, 3, none⟩ = some (.int .i64 g.bound) ∧ W'.cell? ⟨hb, 4, none⟩ = some (.slice AH g.args.length cH))
              (first | (with_reducible exact HCELL.out _ HB7.out) | (with_reducible exact HCELL.out _ HB6.out) | (with_reducible exact HCELL.out _ HB5.out) | (go_keep; done))
              (first
                | (go_at_call 15; (with_reducible refine (HSM.out _ ?_).mono ?_); (first | exact Below.refl _ _ | go_grown | exact (Drawn.n _ _).below _); rintro e W5 ⟨rfl, hb5⟩; have HB5 := hid ((show Below W2.heap.size W2 _ by first | exact Below.refl _ _ | go_grown | exact (Drawn.n _ _).below _).trans (hb5.mono (by first | exact Nat.le_refl _ | (simp; done) | exact Nat.le_refl _))); clear hb5)
                | (go_at_call 16; (with_reducible refine (HAN.out _ ?_).mono ?_); (first | exact HB5.out | exact HB5.out.drew | exact HB5.out.trans ((Drawn.n _ _).below _) | exact HB5.out.trans (by go_grown)); rintro e W6 ⟨A6, c6, rfl, hv6, hb6⟩; have HB6 := hid ((show Below W2.heap.size W2 _ by first | exact HB5.out | exact HB5.out.drew | exact HB5.out.trans ((Drawn.n _ _).below _)).trans (hb6.mono (by first | exact Nat.le_refl _ | (simp; done) | exact HB5.out.size))); have HV6 := hid hv6; clear hb6 hv6)
                | (go_at_call 15; (with_reducible refine (same_lit (f := g) (f2 := g) true ?_ ?_ ?_).mono ?_); simp [cmp_self]; exact HC2.out.v.below (by first | exact HB6.out | exact HB6.out.drew | exact HB6.out.trans ((Drawn.n _ _).below _) | exact HB6.out.trans (by go_grown)); exact HV6.out.below (by first | exact Below.refl _ _ | go_grown | exact (Drawn.n _ _).below _); rintro e W7 ⟨rfl, hb7⟩; have HB7 := hid ((show Below W2.heap.size W2 _ by first | exact HB6.out | exact HB6.out.drew | exact HB6.out.trans ((Drawn.n _ _).below _)).trans (hb7.mono (by first | exact Nat.le_refl _ | (simp; done) | exact HB6.out.size))); clear hb7))
          | fail
        all_goals
          refine tail_close HTL.out ⟨by first | exact HB7.out | exact HB5.out, ?_⟩ ?_
          · rfl
          · kernel_rfl
      · refine wp_region_held_drew (S := (fun W' : World => W'.cell? ⟨gb, 0, none⟩ = some (.int .i64 g.op) ∧ W'.cell? ⟨gb, 1, none⟩ = some (.string g.name) ∧ W'.cell? ⟨gb, 2, none⟩ = some (.int .i64 g.val) ∧ W'.cell? ⟨gb, 3, none⟩ = some (.int .i64 g.bound) ∧ W'.cell? ⟨gb, 4, none⟩ = some (.slice A4 g.args.length c4) ∧ W'.cell? ⟨hb, 0, none⟩ = some (.int .i64 g.op) ∧ W'.cell? ⟨hb, 1, none⟩ = some (.string g.name) ∧ W'.cell? ⟨hb, 2, none⟩ = some (.int .i64 g.val) ∧ W'.cell? ⟨hb, 3, none⟩ = some (.int .i64 g.bound) ∧ W'.cell? ⟨hb, 4, none⟩ = some (.slice AH g.args.length cH))) (by kernel_rfl) ?_ (fun hHeld => ?_)
        · exact HCELL.out _ (Below.refl _ _).drew
        refine wpAnyH_take (i := 0) (v := ?_) rfl (by kernel_rfl) (by kernel_rfl) (by kernel_rfl) (fun _ _ _ h => h) (Or.inl ⟨by rfl, ?_⟩) (by assumption) ?_
        rotate_left
        · intro w hSw; (try dsimp only at hSw); go_simp; (try (with_reducible rfl))
        try simp only [Act.put, List.setIfInBounds_toArray, List.set_cons_zero, List.set_cons_succ]
        refine wpAnyH_take (i := 1) (v := ?_) rfl (by kernel_rfl) (by kernel_rfl) (by kernel_rfl) (fun _ _ _ h => h) (Or.inl ⟨by rfl, ?_⟩) (by assumption) ?_
        rotate_left
        · intro w hSw; (try dsimp only at hSw); go_simp; (try (with_reducible rfl))
        try simp only [Act.put, List.setIfInBounds_toArray, List.set_cons_zero, List.set_cons_succ]
        refine wpAnyH_take (i := 2) (v := ?_) rfl (by kernel_rfl) (by kernel_rfl) (by kernel_rfl) (fun _ _ _ h => h) (Or.inl ⟨by rfl, ?_⟩) (by assumption) ?_
        rotate_left
        · intro w hSw; (try dsimp only at hSw); go_simp; (try (with_reducible rfl))
        try simp only [Act.put, List.setIfInBounds_toArray, List.set_cons_zero, List.set_cons_succ]
        refine wpAnyH_take (i := 3) (v := ?_) rfl (by kernel_rfl) (by kernel_rfl) (by kernel_rfl) (fun _ _ _ h => h) (Or.inl ⟨by rfl, ?_⟩) (by assumption) ?_
        rotate_left
        · intro w hSw; (try dsimp only at hSw); go_simp; (try (with_reducible rfl))
        try simp only [Act.put, List.setIfInBounds_toArray, List.set_cons_zero, List.set_cons_succ]
        refine wpAnyH_take (i := 4) (v := ?_) rfl (by kernel_rfl) (by kernel_rfl) (by kernel_rfl) (fun _ _ _ h => h) (Or.inl ⟨by rfl, ?_⟩) (by assumption) ?_
        rotate_left
        · intro w hSw; (try dsimp only at hSw); go_simp; (try (with_reducible rfl))
        try simp only [Act.put, List.setIfInBounds_toArray, List.set_cons_zero, List.set_cons_succ]
        refine wpAnyH_ready (rs := [5]) (by kernel_rfl) (by simp) (AllReadyH.cons rfl (fun K hK => ?_) AllReadyH.nil)
        go_simp
        (go_at_call 15; (with_reducible refine (HSM.out _ ?_).mono ?_); (focus (first | exact (Below.refl _ _).drew | exact Below.refl _ _ | go_grown | exact (Drawn.n _ _).below _)); rintro e W5 ⟨rfl, hb5⟩; have HB5 := hid ((show Below W2.heap.size W2 W2.drew from (Below.refl _ _).drew).trans (hb5.mono (Nat.le_refl _))); clear hb5)
        go_wp2_with fail
        refine hK.out _ _ ?_ (fun hHeld => ?_)
        · exact HCELL.out _ HB5.out
        clear hK K
        try simp only [Act.put, List.setIfInBounds_toArray, List.set_cons_zero, List.set_cons_succ]
        refine wpAnyH_take (i := 6) (v := ?_) rfl (by kernel_rfl) (by kernel_rfl) (by kernel_rfl) (fun _ _ _ h => h) (Or.inl ⟨by rfl, ?_⟩) (by assumption) ?_
        rotate_left
        · intro w hSw; (try dsimp only at hSw); go_simp; (try (with_reducible rfl))
        try simp only [Act.put, List.setIfInBounds_toArray, List.set_cons_zero, List.set_cons_succ]
        refine wpAnyH_take (i := 7) (v := ?_) rfl (by kernel_rfl) (by kernel_rfl) (by kernel_rfl) (fun _ _ _ h => h) (Or.inl ⟨by rfl, ?_⟩) (by assumption) ?_
        rotate_left
        · intro w hSw; (try dsimp only at hSw); go_simp; (try (with_reducible rfl))
        try simp only [Act.put, List.setIfInBounds_toArray, List.set_cons_zero, List.set_cons_succ]
        refine wpAnyH_take (i := 8) (v := ?_) rfl (by kernel_rfl) (by kernel_rfl) (by kernel_rfl) (fun _ _ _ h => h) (Or.inl ⟨by rfl, ?_⟩) (by assumption) ?_
        rotate_left
        · intro w hSw; (try dsimp only at hSw); go_simp; (try (with_reducible rfl))
        try simp only [Act.put, List.setIfInBounds_toArray, List.set_cons_zero, List.set_cons_succ]
        refine wpAnyH_take (i := 9) (v := ?_) rfl (by kernel_rfl) (by kernel_rfl) (by kernel_rfl) (fun _ _ _ h => h) (Or.inl ⟨by rfl, ?_⟩) (by assumption) ?_
        rotate_left
        · intro w hSw; (try dsimp only at hSw); go_simp; (try (with_reducible rfl))
        try simp only [Act.put, List.setIfInBounds_toArray, List.set_cons_zero, List.set_cons_succ]
        refine wpAnyH_take (i := 10) (v := ?_) rfl (by kernel_rfl) (by kernel_rfl) (by kernel_rfl) (fun _ _ _ h => h) (Or.inl ⟨by rfl, ?_⟩) (by assumption) ?_
        rotate_left
        · intro w hSw; (try dsimp only at hSw); go_simp; (try (with_reducible rfl))
        try simp only [Act.put, List.setIfInBounds_toArray, List.set_cons_zero, List.set_cons_succ]
        refine wpAnyH_take (i := 11) (v := ?_) rfl (by kernel_rfl) (by kernel_rfl) (by kernel_rfl) (fun _ _ _ h => h) (Or.inl ⟨by rfl, ?_⟩) (by assumption) ?_
        rotate_left
        · intro w hSw; (try dsimp only at hSw); go_simp; (try (with_reducible rfl))
        try simp only [Act.put, List.setIfInBounds_toArray, List.set_cons_zero, List.set_cons_succ]
        refine wpAnyH_take (i := 12) (v := undef) rfl (by kernel_rfl) (by kernel_rfl) (by kernel_rfl) (fun _ _ _ h => h) (Or.inr ⟨by kernel_rfl, rfl⟩) (by assumption) ?_
        try simp only [Act.put, List.setIfInBounds_toArray, List.set_cons_zero, List.set_cons_succ]
        refine wpAnyH_take (i := 13) (v := undef) rfl (by kernel_rfl) (by kernel_rfl) (by kernel_rfl) (fun _ _ _ h => h) (Or.inr ⟨by kernel_rfl, rfl⟩) (by assumption) ?_
        try simp only [Act.put, List.setIfInBounds_toArray, List.set_cons_zero, List.set_cons_succ]
        refine wpAnyH_take (i := 14) (v := undef) rfl (by kernel_rfl) (by kernel_rfl) (by kernel_rfl) (fun _ _ _ h => h) (Or.inr ⟨by kernel_rfl, rfl⟩) (by assumption) ?_
        try simp only [Act.put, List.setIfInBounds_toArray, List.set_cons_zero, List.set_cons_succ]
        refine wpAnyH_take (i := 15) (v := undef) rfl (by kernel_rfl) (by kernel_rfl) (by kernel_rfl) (fun _ _ _ h => h) (Or.inr ⟨by kernel_rfl, rfl⟩) (by assumption) ?_
        try simp only [Act.put, List.setIfInBounds_toArray, List.set_cons_zero, List.set_cons_succ]
        refine wpAnyH_take (i := 16) (v := undef) rfl (by kernel_rfl) (by kernel_rfl) (by kernel_rfl) (fun _ _ _ h => h) (Or.inr ⟨by kernel_rfl, rfl⟩) (by assumption) ?_
        try simp only [Act.put, List.setIfInBounds_toArray, List.set_cons_zero, List.set_cons_succ]
        refine wpAnyH_take (i := 17) (v := ?_) rfl (by kernel_rfl) (by kernel_rfl) (by kernel_rfl) (fun _ _ _ h => h) (Or.inl ⟨by kernel_rfl, ?_⟩) (by assumption) ?_
        rotate_left
        · intro w hSw; (try dsimp only at hSw); go_simp; (try (with_reducible rfl))
        try simp only [Act.put, List.setIfInBounds_toArray, List.set_cons_zero, List.set_cons_succ]
        refine wpAnyH_take (i := 18) (v := ?_) rfl (by kernel_rfl) (by kernel_rfl) (by kernel_rfl) (fun _ _ _ h => h) (Or.inl ⟨by kernel_rfl, ?_⟩) (by assumption) ?_
        rotate_left
        · intro w hSw; (try dsimp only at hSw); go_simp; (try (with_reducible rfl))
        try simp only [Act.put, List.setIfInBounds_toArray, List.set_cons_zero, List.set_cons_succ]
        refine wpAnyH_done (by kernel_rfl) ?_ _
        refine tail_close HTL.out ⟨by first | exact HB5.out | exact HB5.out.drew, ?_⟩ ?_
        · kernel_rfl
        · kernel_rfl
      -->>
end Go.Proofs.YtdakdpfofgkjoaaDoor
