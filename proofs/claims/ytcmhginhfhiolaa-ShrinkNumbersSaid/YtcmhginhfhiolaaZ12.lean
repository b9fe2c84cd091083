/-
  Walk of the reference's numbered (the walk).
-/
import Derived.Test.YtcmhginhfhiolaaZ11
set_option linter.unusedVariables false
set_option linter.unusedSimpArgs false
namespace Go.Proofs.Ytcmhginhfhiolaa
open Go.RowKit Go.Shelf
attribute [local go_sem] cell_alloc_old

theorem cells6b {w w' : World} {b1 b2 : Nat} {o2 : Nat} {x0 x1 x2 x3 x4 y : Value} {B : Nat} (h : w.cell? ⟨b1, 0, none⟩ = some x0 ∧ w.cell? ⟨b1, 1, none⟩ = some x1 ∧ w.cell? ⟨b1, 2, none⟩ = some x2 ∧ w.cell? ⟨b1, 3, none⟩ = some x3 ∧ w.cell? ⟨b1, 4, none⟩ = some x4 ∧ w.cell? ⟨b2, o2, none⟩ = some y)
    (hb : Below B w w') (h1 : b1 < B) (h2 : b2 < B) : w'.cell? ⟨b1, 0, none⟩ = some x0 ∧ w'.cell? ⟨b1, 1, none⟩ = some x1 ∧ w'.cell? ⟨b1, 2, none⟩ = some x2 ∧ w'.cell? ⟨b1, 3, none⟩ = some x3 ∧ w'.cell? ⟨b1, 4, none⟩ = some x4 ∧ w'.cell? ⟨b2, o2, none⟩ = some y :=
  ⟨(hb.cell (p := ⟨b1, 0, none⟩) h1).trans h.1, (hb.cell (p := ⟨b1, 1, none⟩) h1).trans h.2.1, (hb.cell (p := ⟨b1, 2, none⟩) h1).trans h.2.2.1, (hb.cell (p := ⟨b1, 3, none⟩) h1).trans h.2.2.2.1, (hb.cell (p := ⟨b1, 4, none⟩) h1).trans h.2.2.2.2.1, (hb.cell (p := ⟨b2, o2, none⟩) h2).trans h.2.2.2.2.2⟩

set_option maxRecDepth 100000 in
set_option maxHeartbeats 8000000 in
theorem rnumbered_any {D E F G : Dom} (v : Value) (m : Mly) (A : Option Addr) (ca : Nat) (care : List (List Bool)) (As : Option Addr) (cs : Nat) (Ac : Option Addr) (cc : Nat) (cl : List Nat) (w : World)
    (h : RdM w D v m) (hc : RdBB w E A ca care) (hst : RdI w F As cs (ordZ (careM m care))) (hcl : RdI w G Ac cc (natZ cl)) (hS : Sized m) (hcs : caresB m care = true)
    (hl : cl.length = (ord (careM m care)).length) (hlt : ∀ i, i < (ord (careM m care)).length → cl.getD i 0 < (ord (careM m care)).length) :
    Calls Try.prog 48 #[v, .slice A care.length ca, .slice As (ordZ (careM m care)).length cs, .slice Ac cl.length cc] w fun e w' => ∃ u, e = .returned u ∧ Below w.heap.size w w' ∧ RdM w' (fun b => w.heap.size ≤ b) u (build (quoM (posM (careM m care)) cl)) := by
  obtain ⟨i0, hti, hz0, hz1, hz2⟩ := info_parts int_info
  obtain ⟨i1, htr, hy0, hy1, hy2⟩ := info_parts rows_info
  have HV := hid h.old
  have HC := hid hc.old
  have HST := hid hst.old
  have HCL := hid hcl.old
  have hcal := hc.len
  have hstl := hst.len
  have hcll := hcl.len
  have HS := hid hS
  have HCSB := hid hcs
  have HLN := hid hl
  obtain ⟨Ao, co, An, cn, rfl, ho, hn⟩ := h
  have hol := ho.len
  have hnl := hn.len
  have hi1 := hS.i1
  have hi2 := hS.i2
  obtain ⟨L, hL⟩ : ∃ L, L = posM (careM m care) := ⟨_, rfl⟩
  have hLok : L.Ok := by rw [hL]; exact posM_ok (care_ok hS care)
  have hszn : (ord (careM m care)).length = L.size := by rw [hL]; rfl
  have hszb : L.size ≤ 3000 := by
    rw [hL]
    exact Nat.le_trans (ord_len (care_ok hS care)) hS.n2
  obtain ⟨M, hM⟩ : ∃ M, M = quoM L cl := ⟨_, rfl⟩
  have hok : M.Ok := by rw [hM]; exact quoM_ok hLok (fun i hi => by rw [← hszn] at hi ⊢; exact hlt i hi)
  have hMsz : M.size ≤ 3000 := by rw [hM]; exact hszb
  have hins1 : (M.ins : Int) ≤ m.ins := by rw [hM, hL]; show ((m.ins.toNat : Nat) : Int) ≤ _; omega
  have hins2 : m.ins ≤ (M.ins : Int) := by rw [hM, hL]; show _ ≤ ((m.ins.toNat : Nat) : Int); omega
  have hst0 : M.start = cl.getD 0 0 := by rw [hM, hL]; rfl
  have hcpos : 0 < cl.length := by rw [hl]; exact ord_pos
  have hbu : build M = ⟨m.ins, m.outs, 0, bOuts M (ord M).length, bNexts M (ord M).length⟩ := by
    unfold build
    have e1 : (M.ins : Int) = m.ins := by omega
    have e2 : M.outs = m.outs := by rw [hM, hL]; rfl
    rw [e1, e2]
  have HBU := hid hbu
  have HL := hid hL
  have HM := hid hM
  have HOK := hid hok
  obtain ⟨bc, oc, hAc, -, hbcl, hccells⟩ := HCL.out.ptr (by rw [natZ_len]; exact hcpos)
  have g0 := hccells 0 (by rw [natZ_len]; exact hcpos)
  rw [natZ_get _ hcpos, ← hst0, Nat.add_zero] at g0
  subst hAc
  have hcpos2 : (0 : Int) < cl.length := by omega
  clear ho hn hc hst hcl hS hL hLok hM hok hl hszn hcs hst0 hlt hbu hccells
  rw [natZ_len] at hcll
  rw [← HL.out, ← HM.out]
  go_enter Try.func48, Try.ntmps48
  go_upto_region 2 with (fail)
  refine wp_gen fun W1 hW1 => ?_
  have hb1 : Below w.heap.size w W1 := by rw [hW1]; go_grown
  have hx1 : W1.heap[w.heap.size]? = some (.cells #[.int .i64 m.ins, .int .i64 m.outs, .int .i64 m.start, .slice Ao m.out.length co, .slice An m.next.length cn] 24 (0, 0)) := by
    rw [hW1]; (repeat (first | (refine at_new _ _ _ ?_; (simp only [World.size_alloc]; done)) | (refine (at_old _ _ _ ?_).trans ?_; (simp only [World.size_alloc]; omega))))
  have hr1 : W1.heap[w.heap.size + 1]? = some (.cells #[.int .i64 0, .int .i64 0, .int .i64 0, .slice none 0 0, .slice none 0 0] 24 (0, 0)) := by
    rw [hW1]; (repeat (first | (refine at_new _ _ _ ?_; (simp only [World.size_alloc]; done)) | (refine (at_old _ _ _ ?_).trans ?_; (simp only [World.size_alloc]; omega))))
  have hm1 : W1.heap[w.heap.size + 1 + 1]? = some (.cells #[.int .i64 m.ins, .int .i64 m.outs, .int .i64 0, .slice none 0 0, .slice none 0 0] 24 (0, 0)) := by
    rw [hW1]; (repeat (first | (refine at_new _ _ _ ?_; (simp only [World.size_alloc]; done)) | (refine (at_old _ _ _ ?_).trans ?_; (simp only [World.size_alloc]; omega))))
  have g1 := (hb1.cell (p := ⟨bc, oc, none⟩) hbcl).trans g0
  have hbcl1 : bc < W1.heap.size := Nat.lt_of_lt_of_le hbcl hb1.size
  have HB1 := hid hb1
  have HX1 := hid hx1
  have HR1 := hid hr1
  have HM1 := hid hm1
  clear hW1 hb1 hx1 hr1 hm1 g0
  go_upto_region 3 with (fail)
  refine wp_gen fun W2 hW2 => ?_
  have hb2 : Below W1.heap.size W1 W2 := by rw [hW2]; go_grown
  have hl2 : W2.ownsRow (w.heap.size + 1 + 1 + 1) 3 1 (.slice (some ⟨W1.heap.size, 0, none⟩) 1 1) 1 ([M.start].map fun q : Nat => Value.int .i64 q) := by
    have hnew : W2.heap[W1.heap.size]? = some (.cells #[.int .i64 M.start] 3 (0, 0)) := by
      rw [hW2]; exact heap_alloc_new W1 _
    have := lt_of_block HM1.out
    exact ⟨rfl, .inr ⟨_, 1, _, rfl, by omega, hnew, by simp, by decide, by simp, by simp⟩⟩
  have hK2 : MkX (fun k => some k = (Value.slice (some ⟨W1.heap.size, 0, none⟩) 1 1).ownBlock) (w.heap.size + 1 + 1 + 1) W2 (w.heap.size + 1 + 1) m.ins m.outs 0 [] none 0 [] [] none 0 [] := by
    have hnew : W2.heap[W1.heap.size]? = some (.cells #[.int .i64 M.start] 3 (0, 0)) := by
      rw [hW2]; exact heap_alloc_new W1 _
    exact ⟨(hb2.block _ (lt_of_block HM1.out)).trans HM1.out, ⟨rfl, .inl ⟨rfl, rfl⟩⟩, ⟨rfl, .inl ⟨rfl, rfl⟩⟩, RowsX.nil _ _ _ _, RowsX.nil _ _ _ _, (fun b h => by cases h), fun k e => by
      injection e with e
      subst e
      exact ⟨_, _, hnew⟩⟩
  have HB2 := hid (HB1.out.trans (hb2.mono HB1.out.size))
  have HX2 := hid ((hb2.block _ (lt_of_block HX1.out)).trans HX1.out)
  have HR2 := hid ((hb2.block _ (lt_of_block HR1.out)).trans HR1.out)
  have HL2 := hid hl2
  have HK2 := hid hK2
  have hs2 := hb2.size
  have hs1 := lt_of_block HM1.out
  clear hW2 hb2 hl2 hK2 g1 HM1 HX1 HR1
  go_wp2_with fail
  go_loopw [10, 11] (fun s t wr => ∃ (k : Nat) (l : List Nat) (A : Option Addr) (c : Nat) (Bo : Option Addr) (bo : Nat) (vo : List Value) (Bn : Option Addr) (bn : Nat) (vn : List Value) (orows nrows : List (List Int)), k ≤ l.length ∧ l = ordAt M k ∧ t = .int .i64 (k : Int) ∧ s = .slice A l.length c ∧
      wr.ownsRow (w.heap.size + 1 + 1 + 1) 3 1 (.slice A l.length c) l.length (l.map fun q : Nat => Value.int .i64 q) ∧ orows = bOuts M k ∧ nrows = bNexts M k ∧ orows.length = k ∧ nrows.length = k ∧
      MkX (fun k => some k = (Value.slice A l.length c).ownBlock) (w.heap.size + 1 + 1 + 1) wr (w.heap.size + 1 + 1) m.ins m.outs 0 orows Bo bo vo nrows Bn bn vn ∧ Below (w.heap.size + 1 + 1) W2 wr) (fun _ t _ => 3001 - (intOf t).toNat)
  case atStart => exact ⟨0, [M.start], _, _, none, 0, [], none, 0, [], [], [], by simp, rfl, rfl, rfl, HL2.out, rfl, rfl, rfl, rfl, HK2.out, Below.refl _ _⟩
  case round =>
    obtain ⟨k, l, A', c, Bo, bo, vo, Bn, bn, vn, orows, nrows, hk, hl, rfl, rfl, hown, hor, hnr, hol2, hnl2, hK, hbr⟩ := hrel
    have HO := hid hown
    have HB := hid hbr
    have HL' := hid hl
    have HK := hid hK
    have HOR := hid hor
    have HNR := hid hnr
    have HOL := hid hol2
    have HNL := hid hnl2
    have hlen : l.length ≤ 3000 := by rw [hl]; exact Nat.le_trans (ordAt_len HOK.out k) hMsz
    have hx := (hbr.block w.heap.size (by omega)).trans HX2.out
    have x0 := block_cell hx (i := 0) rfl
    have HBW := hid (HB2.out.trans (hbr.mono (by omega)))
    have hszr := hbr.size
    have hol3 : orows.length ≤ 3000 := by omega
    have hnl3 : nrows.length ≤ 3000 := by omega
    clear hown hbr hl hx hK hor hnr hol2 hnl2
    by_cases hlt : k < l.length
    · --<<
      have hlt2 : k < (ord M).length := by
        have := (ordAt_sub HOK.out k).length_le
        rw [← HL'.out] at this
        omega
      obtain ⟨q, hq⟩ : ∃ q, l.getD k 0 = q := ⟨_, rfl⟩
      have hqo : (ord M).getD k 0 = q := by
        have := pre_getD (ordAt_sub HOK.out k) 0 (i := k) (by rw [← HL'.out]; exact hlt)
        rw [this, ← HL'.out]; exact hq
      have hqs : q < M.size := by rw [← hq]; exact ordAt_lt HOK.out k _ (by rw [← HL'.out]; exact getD_mem l 0 hlt)
      have HQ := hid hq
      have HQO := hid hqo
      have hnx2 : ordAt M (k + 1) = rowTo M q l M.ins := by rw [ordAt, ← HL'.out, if_pos hlt, hq]
      have HNX2 := hid hnx2
      clear hq hqo hnx2
      obtain ⟨wz, rfl⟩ : ∃ wz : World, wz = wr := ⟨_, rfl⟩
      obtain ⟨cz, rfl⟩ : ∃ cz : Nat, cz = c := ⟨_, rfl⟩
      obtain ⟨Az, rfl⟩ : ∃ Az, Az = A' := ⟨_, rfl⟩
      go_wp2_with fail
      go_loopw [10, 12, 13, 14] (fun s s2 s3 t wr => ∃ (x : Nat) (lx : List Nat) (A : Option Addr) (c : Nat) (o : List Int) (A2 : Option Addr) (c2 : Nat) (n : List Int) (A3 : Option Addr) (c3 : Nat), x ≤ M.ins ∧ lx = rowTo M q l x ∧ o = (bOut M q).take x ∧ n = (bNext M (ord M) k q).take x ∧ o.length = x ∧ n.length = x ∧
        t = .int .i64 (x : Int) ∧ s = .slice A lx.length c ∧ s2 = .slice A2 o.length c2 ∧ s3 = .slice A3 n.length c3 ∧ Nm (w.heap.size + 1 + 1 + 1) wz wr (.slice Az l.length cz) lx A c o A2 c2 n A3 c3) (fun _ _ _ t _ => M.ins - (intOf t).toNat)
      case atStart => exact ⟨0, l, _, _, [], none, 0, [], none, 0, Nat.zero_le _, rfl, rfl, rfl, rfl, rfl, rfl, rfl, rfl, rfl, Nm.init HO.out⟩
      case round =>
        obtain ⟨x, lx, A, c, o, A2, c2, n, A3, c3, hx, hlx, hoe, hne, hoL, hnL, rfl, rfl, rfl, rfl, hN⟩ := hrel
        have HN := hid hN
        have HLX := hid hlx
        have HOE := hid hoe
        have HNE := hid hne
        have HOLX := hid hoL
        have HNLX := hid hnL
        have hpre := rowTo_pre (M := M) q l x
        rw [← hlx] at hpre
        have hlxl : l.length ≤ lx.length := hpre.length_le
        have hgx : lx.getD k 0 = q := by rw [pre_getD hpre 0 hlt]; exact HQ.out
        have hup : ∀ y, y ≤ M.ins → rowTo M q l y <+: ord M := fun y hy => by
          have h1 : rowTo M q l y <+: ordAt M (k + 1) := by rw [HNX2.out]; exact rowTo_mono q l hy
          exact h1.trans (ordAt_sub HOK.out (k + 1))
        have HUP := hid hup
        have hlxs : lx.length ≤ 3000 := by
          have := (hup x hx).length_le
          rw [← hlx] at this
          have := ord_len HOK.out
          omega
        have hbz := hN.chg.below (B := w.heap.size + 1 + 1 + 1) (fun b h1 h2 => by
          rcases h2 with h2 | h2
          · have := (HO.out.lt b h2.symm).1; omega
          · omega) (by omega)
        have HBZ := hid hbz
        have hbxx := (HB.out.trans (hbz.mono (by omega))).block w.heap.size (by omega)
        have HBXX := hid (hbxx.trans HX2.out)
        have x0 := block_cell HBXX.out (i := 0) rfl
        have hszx := hN.chg.size
        have hxw : w.heap.size < wr.heap.size := lt_of_block HBXX.out
        have hor3 : o.length ≤ 64 := by omega
        have hnr3 : n.length ≤ 64 := by omega
        clear hN hlx hoe hne hoL hnL hpre hup hbxx hbz
        by_cases hxl : x < M.ins
        · have hxi : (x : Int) < m.ins := by omega
          have hkx : k < lx.length := by omega
          have hA : ∃ g, A = some ⟨g, 0, none⟩ := by
            rcases HN.out.ord.2 with ⟨hv, h0⟩ | ⟨g, cap, cur, hv, _⟩
            · exact absurd h0 (by omega)
            · injection hv with hv; exact ⟨g, hv⟩
          obtain ⟨g', rfl⟩ := hA
          have hcq : (lx.map fun q : Nat => Value.int .i64 q)[k]? = some (.int .i64 (q : Int)) := by
            rw [← hgx]; simp [List.getD, hkx]
          have hcell : wr.cell? ⟨g', k, none⟩ = some (.int .i64 (q : Int)) := (HN.out.ord.cellAt k (by simpa using hkx)).trans hcq
          have hgl : g' < wr.heap.size := (HN.out.ord.lt g' rfl).2
          have hkxi : (k : Int) < lx.length := by omega
          have HGX := hid hgx
          have x1 := block_cell HBXX.out (i := 1) rfl
          have x2 := block_cell HBXX.out (i := 2) rfl
          have x3 := block_cell HBXX.out (i := 3) rfl
          have x4 := block_cell HBXX.out (i := 4) rfl
          have HS6 := hid (show wr.cell? ⟨w.heap.size, 0, none⟩ = some (.int .i64 m.ins) ∧ wr.cell? ⟨w.heap.size, 1, none⟩ = some (.int .i64 m.outs) ∧ wr.cell? ⟨w.heap.size, 2, none⟩ = some (.int .i64 m.start) ∧
              wr.cell? ⟨w.heap.size, 3, none⟩ = some (.slice Ao m.out.length co) ∧ wr.cell? ⟨w.heap.size, 4, none⟩ = some (.slice An m.next.length cn) ∧ wr.cell? ⟨g', k, none⟩ = some (.int .i64 (q : Int)) from ⟨x0, x1, x2, x3, x4, hcell⟩)
          have hbwr : Below w.heap.size w wr := HBW.out.trans (HBZ.out.mono (by omega))
          have HMC : Hid (∀ W', Below wr.heap.size wr W' → Calls Try.prog 63 #[.agg #[.int .i64 m.ins, .int .i64 m.outs, .int .i64 m.start, .slice Ao m.out.length co, .slice An m.next.length cn], .slice A care.length ca,
              .slice As (ordZ (careM m care)).length cs, .slice (some ⟨bc, oc, none⟩) cl.length cc, .int .i64 (q : Int), .int .i64 (x : Int)] W' fun e w' => MoveSays (M.mv q x) W' e w') := hid fun W' hW' => by
            have hk : Keeps (fun b => b < w.heap.size) w W' := Keeps.of_below (hbwr.trans (hW'.mono hbwr.size)) fun _ h => h
            have := rmove_any _ m _ ca care As cs _ cc cl q x W' (HV.out.keep hk) (HC.out.keep hk) (HST.out.keep hk) (HCL.out.keep hk) HS.out HCSB.out HLN.out hxi
            rw [HM.out, HL.out]
            exact this
          rcases hmv : M.mv q x with _ | ⟨ov, tv⟩
          · have hkk : True := trivial
            have HMC2 : Hid (∀ W', Below wr.heap.size wr W' → Calls Try.prog 63 #[.agg #[.int .i64 m.ins, .int .i64 m.outs, .int .i64 m.start, .slice Ao m.out.length co, .slice An m.next.length cn], .slice A care.length ca,
                .slice As (ordZ (careM m care)).length cs, .slice (some ⟨bc, oc, none⟩) cl.length cc, .int .i64 (q : Int), .int .i64 (x : Int)] W' fun e w' => e = .returned (.tuple #[.int .i64 0, .int .i64 0, .bool false]) ∧ Below W'.heap.size W' w') := hid fun W' hW' => by
              have := HMC.out W' hW'
              rw [hmv] at this
              exact this
            have hrw : rowTo M q l (x + 1) = lx := by rw [rowTo, hmv, ← HLX.out]; rfl
            obtain ⟨ix, hixe⟩ : ∃ ix, k = ix := ⟨_, rfl⟩
            have hix : lx.idxOf q = ix := by rw [← hixe, ← HGX.out]; exact idxOf_getD (by rw [HLX.out]; exact rowTo_nodup q (by rw [HL'.out]; exact ordAt_nodup k) x) hkx
            have hmem : q ∈ lx := by rw [← HGX.out]; exact getD_mem lx 0 hkx
            have hnv : (bNext M (ord M) k q).getD x 0 = (ix : Int) := by rw [bNext_get M _ _ _ hxl, hmv, ← hixe]
            have hov : (bOut M q).getD x 0 = 0 := by rw [bOut_get M _ hxl, hmv]
            have hixl : ix < 3001 := by omega
            clear hixe
            have HI1 : Hid (∀ W', Below wr.heap.size wr W' → Calls Try.prog 34 #[.slice (some ⟨g', 0, none⟩) lx.length c, .int .i64 (q : Int)] W' fun e w' => e = .returned (.int .i64 (ix : Int)) ∧ w' = W') := hid fun W' hW' => by
              have hrd : RdI W' (fun _ => True) (some ⟨g', 0, none⟩) c (lx.map fun q : Nat => (q : Int)) := by
                unfold RdI
                rw [List.map_map, List.length_map]
                exact Rd.own (own_below HN.out.ord hW') (by omega) (fun _ _ => trivial)
              have := index_any (some ⟨g', 0, none⟩) c (lx.map fun q : Nat => (q : Int)) (q : Int) W' hrd
              rw [List.length_map, idxZ_cast, if_pos hmem, hix] at this
              exact this
            have HRW := hid hrw
            have HNV := hid hnv
            have HOV := hid hov
            have HTO := hid (bOut_take M q hxl)
            have HTN := hid (bNext_take M (ord M) k q hxl)
            have HMEM := hid hmem
            have HIX0 := hid hix
            clear hrw hnv hov hmv hmem hix 
            go_wp2_with fail
            go_region_held3 (fun w' => w'.cell? ⟨w.heap.size, 0, none⟩ = some (.int .i64 m.ins) ∧ w'.cell? ⟨w.heap.size, 1, none⟩ = some (.int .i64 m.outs) ∧ w'.cell? ⟨w.heap.size, 2, none⟩ = some (.int .i64 m.start) ∧
                w'.cell? ⟨w.heap.size, 3, none⟩ = some (.slice Ao m.out.length co) ∧ w'.cell? ⟨w.heap.size, 4, none⟩ = some (.slice An m.next.length cn) ∧ w'.cell? ⟨g', k, none⟩ = some (.int .i64 (q : Int)))
              (first
                | go_keep
                | exact cells6b HS6.out hb4 hxw hgl)
              ((go_at_call 63; refine (HMC2.out _ ((Drawn.refl wr).drew.below wr.heap.size)).mono ?_; rintro e w4 ⟨rfl, hb4'⟩; have hb4 : Below wr.heap.size wr w4 := ((Drawn.refl wr).drew.below wr.heap.size).trans hb4'))
            have HN4 := hid (HN.out.later hb4)
            have HB4 := hid hb4
            have hs4 := hb4.size
            have hcell4 := (hb4.cell (p := ⟨g', k, none⟩) hgl).trans hcell
            have hgl4 : g' < w4.heap.size := Nat.lt_of_lt_of_le hgl hs4
            clear hb4 hb4' hcell x0 x1 x2 x3 x4
            go_wp2_with fail
            refine (HI1.out _ HB4.out).mono ?_
            rintro e w5 ⟨rfl, rfl⟩
            go_upto_region 16 with (fail)
            obtain ⟨w6, rfl⟩ : ∃ w6, w6 = w5 := ⟨_, rfl⟩
            obtain ⟨lx6, rfl⟩ : ∃ l6, l6 = lx := ⟨_, rfl⟩
            obtain ⟨A6, hA6⟩ : ∃ A6, A6 = some (⟨g', 0, none⟩ : Addr) := ⟨_, rfl⟩
            obtain ⟨c6, rfl⟩ : ∃ c6, c6 = c := ⟨_, rfl⟩
            rw [← hA6]
            have HN6 := HN4
            rw [← hA6] at HN6
            have HM6 := HMEM
            have HIX6 := HIX0
            have hl6b : lx6.length ≤ 3000 := by omega
            clear hA6
            go_upto_region 17 with (at_builtin; go_must (refine wpList_append_rd _ rfl (.tmp 67) (.tmp 69) 34 rfl wz.heap.size 3 i0 _ 1 8 Try.underlying34 hti hz0 hz1 hz2 rfl (by omega) (.slice A2 o.length c2) o.length _ rfl (HN6.out.outs.alloc _) _ (some ⟨w6.heap.size, 0, none⟩) 1 1 _ rfl (Rd.cell1 (cell_new w6 _ _ _ _ _ rfl rfl)) (by simp [Value.oneCell']) (by omega) (maxLen_le (by omega)) (by have := HN6.out.chg.size; simp; omega) ?_); intro A7 c7 w7 hown7 hg7 hat7)
            have HN7 := hid ((HN6.out.later (show Below w6.heap.size w6 (w6.alloc (.cells #[.int .i64 0] 3)) from (Below.refl _ _).alloc (Nat.le_refl _) _)).push2 hg7 (z := 0) (by rw [List.map_append]; exact hown7) hat7)
            clear hown7 hg7 hat7
            have HI2 : Hid (Calls Try.prog 34 #[.slice A6 lx6.length c6, .int .i64 (q : Int)] w7 fun e w' => e = .returned (.int .i64 (ix : Int)) ∧ w' = w7) := hid (by
              have hrd : RdI w7 (fun _ => True) A6 c6 (lx6.map fun q : Nat => (q : Int)) := by
                unfold RdI
                rw [List.map_map, List.length_map]
                exact Rd.own HN7.out.ord (by omega) (fun _ _ => trivial)
              have := index_any A6 c6 (lx6.map fun q : Nat => (q : Int)) (q : Int) w7 hrd
              rw [List.length_map, idxZ_cast, if_pos HM6.out, HIX6.out] at this
              exact this)
            go_wp2_with fail
            refine HI2.out.mono ?_
            rintro e w8 ⟨rfl, rfl⟩
            go_wp2_with (at_builtin; go_must (refine wpList_append_rd _ rfl (.tmp 71) (.tmp 75) 34 rfl wz.heap.size 3 i0 _ 1 8 Try.underlying34 hti hz0 hz1 hz2 rfl (by omega) (.slice A3 n.length c3) n.length _ rfl (HN7.out.next.alloc _) _ (some ⟨w8.heap.size, 0, none⟩) 1 1 _ rfl (Rd.cell1 (cell_new w8 _ _ _ _ _ rfl rfl)) (by simp [Value.oneCell']) (by omega) (maxLen_le (by omega)) (by have := HN7.out.chg.size; simp; omega) ?_); intro A9 c9 w9 hown9 hg9 hat9)
            have HN9 := hid ((HN7.out.later (show Below w8.heap.size w8 (w8.alloc (.cells #[.int .i64 (ix : Int)] 3)) from (Below.refl _ _).alloc (Nat.le_refl _) _)).push3 hg9 (z := (ix : Int)) (by rw [List.map_append]; exact hown9) hat9)
            clear hown9 hg9 hat9
            go_roundw
            case rel =>
              refine ⟨x + 1, lx6, A6, c6, o ++ [0], A7, c7, n ++ [(ix : Int)], A9, c9, by omega, ?_, ?_, ?_, ?_, ?_, by go_num, rfl, by simp, by simp, HN9.out⟩
              · rw [HRW.out]
              · rw [HTO.out, ← HOE.out, HOV.out]
              · rw [HTN.out, ← HNE.out, HNV.out]
              · rw [List.length_append, HOLX.out]; rfl
              · rw [List.length_append, HNLX.out]; rfl
            case measure => simp [intOf]; omega
          · by_cases hmem : tv ∈ lx
            · have hkk : True := trivial
              have HMC2 : Hid (∀ W', Below wr.heap.size wr W' → Calls Try.prog 63 #[.agg #[.int .i64 m.ins, .int .i64 m.outs, .int .i64 m.start, .slice Ao m.out.length co, .slice An m.next.length cn], .slice A care.length ca,
                  .slice As (ordZ (careM m care)).length cs, .slice (some ⟨bc, oc, none⟩) cl.length cc, .int .i64 (q : Int), .int .i64 (x : Int)] W' fun e w' => e = .returned (.tuple #[.int .i64 ov, .int .i64 (tv : Int), .bool true]) ∧ Below W'.heap.size W' w') := hid fun W' hW' => by
                have := HMC.out W' hW'
                rw [hmv] at this
                exact this
              have hrw : rowTo M q l (x + 1) = lx := by rw [rowTo, hmv, ← HLX.out]; simp [pushM, hmem]
              have hnv : (bNext M (ord M) k q).getD x 0 = (lx.idxOf tv : Int) := by
                rw [bNext_get M _ _ _ hxl, hmv]
                have := HUP.out x hx
                rw [← HLX.out] at this
                show ((ord M).idxOf tv : Int) = _
                rw [idxOf_pre this hmem]
              have hov : (bOut M q).getD x 0 = ov := by rw [bOut_get M _ hxl, hmv]
              obtain ⟨ix, hix⟩ : ∃ ix, lx.idxOf tv = ix := ⟨_, rfl⟩
              have hixl : ix < 3001 := by have := List.idxOf_lt_length_of_mem hmem; omega
              rw [hix] at hnv
              have HI1 : Hid (∀ W', Below wr.heap.size wr W' → Calls Try.prog 34 #[.slice (some ⟨g', 0, none⟩) lx.length c, .int .i64 (tv : Int)] W' fun e w' => e = .returned (.int .i64 (ix : Int)) ∧ w' = W') := hid fun W' hW' => by
                have hrd : RdI W' (fun _ => True) (some ⟨g', 0, none⟩) c (lx.map fun q : Nat => (q : Int)) := by
                  unfold RdI
                  rw [List.map_map, List.length_map]
                  exact Rd.own (own_below HN.out.ord hW') (by omega) (fun _ _ => trivial)
                have := index_any (some ⟨g', 0, none⟩) c (lx.map fun q : Nat => (q : Int)) (tv : Int) W' hrd
                rw [List.length_map, idxZ_cast, if_pos hmem, hix] at this
                exact this
              have HRW := hid hrw
              have HNV := hid hnv
              have HOV := hid hov
              have HTO := hid (bOut_take M q hxl)
              have HTN := hid (bNext_take M (ord M) k q hxl)
              have HMEM := hid hmem
              have HIX0 := hid hix
              clear hrw hnv hov hmv hmem hix 
              go_wp2_with fail
              go_region_held3 (fun w' => w'.cell? ⟨w.heap.size, 0, none⟩ = some (.int .i64 m.ins) ∧ w'.cell? ⟨w.heap.size, 1, none⟩ = some (.int .i64 m.outs) ∧ w'.cell? ⟨w.heap.size, 2, none⟩ = some (.int .i64 m.start) ∧
                  w'.cell? ⟨w.heap.size, 3, none⟩ = some (.slice Ao m.out.length co) ∧ w'.cell? ⟨w.heap.size, 4, none⟩ = some (.slice An m.next.length cn) ∧ w'.cell? ⟨g', k, none⟩ = some (.int .i64 (q : Int)))
                (first
                  | go_keep
                  | exact cells6b HS6.out hb4 hxw hgl)
                ((go_at_call 63; refine (HMC2.out _ ((Drawn.refl wr).drew.below wr.heap.size)).mono ?_; rintro e w4 ⟨rfl, hb4'⟩; have hb4 : Below wr.heap.size wr w4 := ((Drawn.refl wr).drew.below wr.heap.size).trans hb4'))
              have HN4 := hid (HN.out.later hb4)
              have HB4 := hid hb4
              have hs4 := hb4.size
              have hcell4 := (hb4.cell (p := ⟨g', k, none⟩) hgl).trans hcell
              have hgl4 : g' < w4.heap.size := Nat.lt_of_lt_of_le hgl hs4
              clear hb4 hb4' hcell x0 x1 x2 x3 x4
              go_wp2_with fail
              refine (HI1.out _ HB4.out).mono ?_
              rintro e w5 ⟨rfl, rfl⟩
              go_upto_region 16 with (fail)
              obtain ⟨w6, rfl⟩ : ∃ w6, w6 = w5 := ⟨_, rfl⟩
              obtain ⟨lx6, rfl⟩ : ∃ l6, l6 = lx := ⟨_, rfl⟩
              obtain ⟨A6, hA6⟩ : ∃ A6, A6 = some (⟨g', 0, none⟩ : Addr) := ⟨_, rfl⟩
              obtain ⟨c6, rfl⟩ : ∃ c6, c6 = c := ⟨_, rfl⟩
              rw [← hA6]
              have HN6 := HN4
              rw [← hA6] at HN6
              have HM6 := HMEM
              have HIX6 := HIX0
              have hl6b : lx6.length ≤ 3000 := by omega
              clear hA6
              go_upto_region 17 with (at_builtin; go_must (refine wpList_append_rd _ rfl (.tmp 67) (.tmp 69) 34 rfl wz.heap.size 3 i0 _ 1 8 Try.underlying34 hti hz0 hz1 hz2 rfl (by omega) (.slice A2 o.length c2) o.length _ rfl (HN6.out.outs.alloc _) _ (some ⟨w6.heap.size, 0, none⟩) 1 1 _ rfl (Rd.cell1 (cell_new w6 _ _ _ _ _ rfl rfl)) (by simp [Value.oneCell']) (by omega) (maxLen_le (by omega)) (by have := HN6.out.chg.size; simp; omega) ?_); intro A7 c7 w7 hown7 hg7 hat7)
              have HN7 := hid ((HN6.out.later (show Below w6.heap.size w6 (w6.alloc (.cells #[.int .i64 ov] 3)) from (Below.refl _ _).alloc (Nat.le_refl _) _)).push2 hg7 (z := ov) (by rw [List.map_append]; exact hown7) hat7)
              clear hown7 hg7 hat7
              have HI2 : Hid (Calls Try.prog 34 #[.slice A6 lx6.length c6, .int .i64 (tv : Int)] w7 fun e w' => e = .returned (.int .i64 (ix : Int)) ∧ w' = w7) := hid (by
                have hrd : RdI w7 (fun _ => True) A6 c6 (lx6.map fun q : Nat => (q : Int)) := by
                  unfold RdI
                  rw [List.map_map, List.length_map]
                  exact Rd.own HN7.out.ord (by omega) (fun _ _ => trivial)
                have := index_any A6 c6 (lx6.map fun q : Nat => (q : Int)) (tv : Int) w7 hrd
                rw [List.length_map, idxZ_cast, if_pos HM6.out, HIX6.out] at this
                exact this)
              go_wp2_with fail
              refine HI2.out.mono ?_
              rintro e w8 ⟨rfl, rfl⟩
              go_wp2_with (at_builtin; go_must (refine wpList_append_rd _ rfl (.tmp 71) (.tmp 75) 34 rfl wz.heap.size 3 i0 _ 1 8 Try.underlying34 hti hz0 hz1 hz2 rfl (by omega) (.slice A3 n.length c3) n.length _ rfl (HN7.out.next.alloc _) _ (some ⟨w8.heap.size, 0, none⟩) 1 1 _ rfl (Rd.cell1 (cell_new w8 _ _ _ _ _ rfl rfl)) (by simp [Value.oneCell']) (by omega) (maxLen_le (by omega)) (by have := HN7.out.chg.size; simp; omega) ?_); intro A9 c9 w9 hown9 hg9 hat9)
              have HN9 := hid ((HN7.out.later (show Below w8.heap.size w8 (w8.alloc (.cells #[.int .i64 (ix : Int)] 3)) from (Below.refl _ _).alloc (Nat.le_refl _) _)).push3 hg9 (z := (ix : Int)) (by rw [List.map_append]; exact hown9) hat9)
              clear hown9 hg9 hat9
              go_roundw
              case rel =>
                refine ⟨x + 1, lx6, A6, c6, o ++ [ov], A7, c7, n ++ [(ix : Int)], A9, c9, by omega, ?_, ?_, ?_, ?_, ?_, by go_num, rfl, by simp, by simp, HN9.out⟩
                · rw [HRW.out]
                · rw [HTO.out, ← HOE.out, HOV.out]
                · rw [HTN.out, ← HNE.out, HNV.out]
                · rw [List.length_append, HOLX.out]; rfl
                · rw [List.length_append, HNLX.out]; rfl
              case measure => simp [intOf]; omega
            · have hkk : True := trivial
              have HMC2 : Hid (∀ W', Below wr.heap.size wr W' → Calls Try.prog 63 #[.agg #[.int .i64 m.ins, .int .i64 m.outs, .int .i64 m.start, .slice Ao m.out.length co, .slice An m.next.length cn], .slice A care.length ca,
                  .slice As (ordZ (careM m care)).length cs, .slice (some ⟨bc, oc, none⟩) cl.length cc, .int .i64 (q : Int), .int .i64 (x : Int)] W' fun e w' => e = .returned (.tuple #[.int .i64 ov, .int .i64 (tv : Int), .bool true]) ∧ Below W'.heap.size W' w') := hid fun W' hW' => by
                have := HMC.out W' hW'
                rw [hmv] at this
                exact this
              have hrw : rowTo M q l (x + 1) = lx ++ [tv] := by rw [rowTo, hmv, ← HLX.out]; simp [pushM, hmem]
              have hpre2 := HUP.out (x + 1) (by omega)
              rw [hrw] at hpre2
              have hlx2 : lx.length + 1 ≤ 3000 := by
                have := hpre2.length_le
                rw [List.length_append, List.length_singleton] at this
                have := ord_len HOK.out
                omega
              have hnv : (bNext M (ord M) k q).getD x 0 = (lx.length : Int) := by
                rw [bNext_get M _ _ _ hxl, hmv]
                show ((ord M).idxOf tv : Int) = _
                rw [idxOf_pre hpre2 (by simp), idxOf_snoc hmem]
              have hov : (bOut M q).getD x 0 = ov := by rw [bOut_get M _ hxl, hmv]
              obtain ⟨ix, hix⟩ : ∃ ix, lx.length = ix := ⟨_, rfl⟩
              have hixl : ix < 3001 := by omega
              have hix2 : (lx ++ [tv]).idxOf tv = ix := by rw [idxOf_snoc hmem, hix]
              rw [hix] at hnv
              clear hpre2
              have HI1 : Hid (∀ W', Below wr.heap.size wr W' → Calls Try.prog 34 #[.slice (some ⟨g', 0, none⟩) lx.length c, .int .i64 (tv : Int)] W' fun e w' => e = .returned (.int .i64 (-1)) ∧ w' = W') := hid fun W' hW' => by
                have hrd : RdI W' (fun _ => True) (some ⟨g', 0, none⟩) c (lx.map fun q : Nat => (q : Int)) := by
                  unfold RdI
                  rw [List.map_map, List.length_map]
                  exact Rd.own (own_below HN.out.ord hW') (by omega) (fun _ _ => trivial)
                have := index_any (some ⟨g', 0, none⟩) c (lx.map fun q : Nat => (q : Int)) (tv : Int) W' hrd
                rw [List.length_map, idxZ_cast, if_neg hmem] at this
                exact this
              have HRW := hid hrw
              have HNV := hid hnv
              have HOV := hid hov
              have HTO := hid (bOut_take M q hxl)
              have HTN := hid (bNext_take M (ord M) k q hxl)
              have HMEM := hid hmem
              have HIX0 := hid hix2
              clear hrw hnv hov hmv hmem hix hix2
              go_wp2_with fail
              go_region_held3 (fun w' => w'.cell? ⟨w.heap.size, 0, none⟩ = some (.int .i64 m.ins) ∧ w'.cell? ⟨w.heap.size, 1, none⟩ = some (.int .i64 m.outs) ∧ w'.cell? ⟨w.heap.size, 2, none⟩ = some (.int .i64 m.start) ∧
                  w'.cell? ⟨w.heap.size, 3, none⟩ = some (.slice Ao m.out.length co) ∧ w'.cell? ⟨w.heap.size, 4, none⟩ = some (.slice An m.next.length cn) ∧ w'.cell? ⟨g', k, none⟩ = some (.int .i64 (q : Int)))
                (first
                  | go_keep
                  | exact cells6b HS6.out hb4 hxw hgl)
                ((go_at_call 63; refine (HMC2.out _ ((Drawn.refl wr).drew.below wr.heap.size)).mono ?_; rintro e w4 ⟨rfl, hb4'⟩; have hb4 : Below wr.heap.size wr w4 := ((Drawn.refl wr).drew.below wr.heap.size).trans hb4'))
              have HN4 := hid (HN.out.later hb4)
              have HB4 := hid hb4
              have hs4 := hb4.size
              have hcell4 := (hb4.cell (p := ⟨g', k, none⟩) hgl).trans hcell
              have hgl4 : g' < w4.heap.size := Nat.lt_of_lt_of_le hgl hs4
              clear hb4 hb4' hcell x0 x1 x2 x3 x4
              go_wp2_with fail
              refine (HI1.out _ HB4.out).mono ?_
              rintro e w5 ⟨rfl, rfl⟩
              go_upto_region 16 with (at_builtin; go_must (refine wpList_append_rd _ rfl (.tmp 63) (.tmp 65) 34 rfl (w.heap.size + 1 + 1 + 1) 3 i0 _ 1 8 Try.underlying34 hti hz0 hz1 hz2 rfl (by omega) (.slice (some ⟨g', 0, none⟩) lx.length c) lx.length _ rfl (HN4.out.ord.alloc _) _ (some ⟨w5.heap.size, 0, none⟩) 1 1 _ rfl (Rd.cell1 (cell_new w5 _ _ _ _ _ rfl rfl)) (by simp [Value.oneCell']) (by omega) (maxLen_le (by omega)) (by simp; omega) ?_); intro A6 c6 w6 hown6 hg6 hat6)
              obtain ⟨lx6, hlx6⟩ : ∃ l6, l6 = lx ++ [tv] := ⟨_, rfl⟩
              have hl6 : lx6.length = lx.length + 1 := by rw [hlx6]; simp
              have HN6 := hid ((HN4.out.later (show Below w5.heap.size w5 (w5.alloc (.cells #[.int .i64 (tv : Int)] 3)) from (Below.refl _ _).alloc (Nat.le_refl _) _)).push1 hg6 (t := tv) (by rw [List.map_append]; exact hown6) hat6)
              rw [← hlx6] at HN6 HIX0
              have HM6 := hid (show tv ∈ lx6 by rw [hlx6]; simp)
              have HIX6 := HIX0
              have HLX6 := hid hlx6
              have HL6 := hid hl6
              have hl6b : lx6.length ≤ 3000 := by omega
              rw [show lx.length + 1 = lx6.length from hl6.symm]
              clear hown6 hg6 hat6 hlx6 hl6
              go_upto_region 17 with (at_builtin; go_must (refine wpList_append_rd _ rfl (.tmp 67) (.tmp 69) 34 rfl wz.heap.size 3 i0 _ 1 8 Try.underlying34 hti hz0 hz1 hz2 rfl (by omega) (.slice A2 o.length c2) o.length _ rfl (HN6.out.outs.alloc _) _ (some ⟨w6.heap.size, 0, none⟩) 1 1 _ rfl (Rd.cell1 (cell_new w6 _ _ _ _ _ rfl rfl)) (by simp [Value.oneCell']) (by omega) (maxLen_le (by omega)) (by have := HN6.out.chg.size; simp; omega) ?_); intro A7 c7 w7 hown7 hg7 hat7)
              have HN7 := hid ((HN6.out.later (show Below w6.heap.size w6 (w6.alloc (.cells #[.int .i64 ov] 3)) from (Below.refl _ _).alloc (Nat.le_refl _) _)).push2 hg7 (z := ov) (by rw [List.map_append]; exact hown7) hat7)
              clear hown7 hg7 hat7
              have HI2 : Hid (Calls Try.prog 34 #[.slice A6 lx6.length c6, .int .i64 (tv : Int)] w7 fun e w' => e = .returned (.int .i64 (ix : Int)) ∧ w' = w7) := hid (by
                have hrd : RdI w7 (fun _ => True) A6 c6 (lx6.map fun q : Nat => (q : Int)) := by
                  unfold RdI
                  rw [List.map_map, List.length_map]
                  exact Rd.own HN7.out.ord (by omega) (fun _ _ => trivial)
                have := index_any A6 c6 (lx6.map fun q : Nat => (q : Int)) (tv : Int) w7 hrd
                rw [List.length_map, idxZ_cast, if_pos HM6.out, HIX6.out] at this
                exact this)
              go_wp2_with fail
              refine HI2.out.mono ?_
              rintro e w8 ⟨rfl, rfl⟩
              go_wp2_with (at_builtin; go_must (refine wpList_append_rd _ rfl (.tmp 71) (.tmp 75) 34 rfl wz.heap.size 3 i0 _ 1 8 Try.underlying34 hti hz0 hz1 hz2 rfl (by omega) (.slice A3 n.length c3) n.length _ rfl (HN7.out.next.alloc _) _ (some ⟨w8.heap.size, 0, none⟩) 1 1 _ rfl (Rd.cell1 (cell_new w8 _ _ _ _ _ rfl rfl)) (by simp [Value.oneCell']) (by omega) (maxLen_le (by omega)) (by have := HN7.out.chg.size; simp; omega) ?_); intro A9 c9 w9 hown9 hg9 hat9)
              have HN9 := hid ((HN7.out.later (show Below w8.heap.size w8 (w8.alloc (.cells #[.int .i64 (ix : Int)] 3)) from (Below.refl _ _).alloc (Nat.le_refl _) _)).push3 hg9 (z := (ix : Int)) (by rw [List.map_append]; exact hown9) hat9)
              clear hown9 hg9 hat9
              go_roundw
              case rel =>
                refine ⟨x + 1, lx6, A6, c6, o ++ [ov], A7, c7, n ++ [(ix : Int)], A9, c9, by omega, ?_, ?_, ?_, ?_, ?_, by go_num, rfl, by simp, by simp, HN9.out⟩
                · rw [HRW.out]; exact HLX6.out
                · rw [HTO.out, ← HOE.out, HOV.out]
                · rw [HTN.out, ← HNE.out, HNV.out]
                · rw [List.length_append, HOLX.out]; rfl
                · rw [List.length_append, HNLX.out]; rfl
              case measure => simp [intOf]; omega
        · have hxe : x = M.ins := by omega
          obtain ⟨r2, hr2⟩ : ∃ r2, r2 = bOut M q := ⟨_, rfl⟩
          obtain ⟨r3, hr3⟩ : ∃ r3, r3 = bNext M (ord M) k q := ⟨_, rfl⟩
          have ho2 : o = r2 := by rw [HOE.out, hxe, hr2]; exact List.take_of_length_le (by simp [bOut])
          have hn3 : n = r3 := by rw [HNE.out, hxe, hr3]; exact List.take_of_length_le (by simp [bNext])
          have hlxf : lx = ordAt M (k + 1) := by rw [HNX2.out, HLX.out, hxe]
          have hK1 := HN.out.done HK.out
          have hr2o : RdI wr (IBX (fun k => some k = (Value.slice A lx.length c).ownBlock) wr (w.heap.size + 1 + 1 + 1)) A2 c2 o := IBX.own (B' := wz.heap.size) (by omega) (fun k e e2 => HN.out.d12 k e2 e) HN.out.outs rfl (by omega)
          have hr3o : RdI wr (IBX (fun k => some k = (Value.slice A lx.length c).ownBlock) wr (w.heap.size + 1 + 1 + 1)) A3 c3 n := IBX.own (B' := wz.heap.size) (by omega) (fun k e e2 => HN.out.d13 k e2 e) HN.out.next rfl (by omega)
          have HK1 := hid hK1
          have HR2O := hid hr2o
          have HR3O := hid hr3o
          have HRE2 := hid hr2
          have HRE3 := hid hr3
          have HO2 := hid ho2
          have HN3 := hid hn3
          have HLXF := hid hlxf
          have HOWN1 := hid HN.out.ord
          obtain ⟨-, -, -, d3, d4, db, f3, f4⟩ := hK1.cells
          clear hK1 hr2o hr3o hr2 hr3 ho2 hn3 hlxf hxe
          go_upto_region 19 with (at_builtin; go_must (refine wpList_append_rd _ rfl (.tmp 78) (.tmp 80) 22 rfl (w.heap.size + 1 + 1 + 1) 34 i1 _ 1 24 Try.underlying22 htr hy0 hy1 hy2 rfl (by omega) (.slice Bo orows.length bo) orows.length _ rfl (HK1.out.oo.alloc _) _ (some ⟨wr.heap.size, 0, none⟩) 1 1 _ rfl (Rd.cell1 (cell_new wr _ _ _ _ _ rfl rfl)) (by simp [Value.oneCell']) (by omega) (maxLen_le (by omega)) (by simp; omega) ?_); intro A5 c5 w5 hown5 hg5 hat5; have e5c := ((HK1.out.later (by go_grown)).grow (HK1.out.later (by go_grown)).oo hg5 0 undef).2.2.2; have e5d := block_cell e5c (i := 3) rfl; have e5f := block_free e5c (i := 3))
          refine wp_gen fun W6 hW6 => ?_
          have hKa := HK1.out.later (show Below wr.heap.size wr (wr.alloc (.cells #[.slice A2 o.length c2] 34)) from (Below.refl _ _).alloc (Nat.le_refl _) _)
          have hgr := hKa.grow hKa.oo hg5 3 (.slice A5 (orows.length + 1) c5)
          have hK6 : MkX (fun k => some k = (Value.slice A lx.length c).ownBlock) (w.heap.size + 1 + 1 + 1) W6 (w.heap.size + 1 + 1) m.ins m.outs 0 (orows ++ [o]) A5 c5 (vo ++ [.slice A2 o.length c2]) nrows Bn bn vn := by
            rw [hW6]
            exact hKa.outr (IBX.keep ((Keeps.refl _ wr).alloc _) HR2O.out) hg5 hown5 hat5
          have hch6 : Chg (fun a => w.heap.size + 1 + 1 + 1 ≤ a ∨ a = w.heap.size + 1 + 1) wr W6 := by
            rw [hW6]
            exact (Chg.of_new ((Below.refl _ _).alloc (Nat.le_refl _) _)).trans hgr.2.1
          have hrow6 : RdI W6 (IBX (fun k => some k = (Value.slice A lx.length c).ownBlock) W6 (w.heap.size + 1 + 1 + 1)) A3 c3 n := by
            rw [hW6]
            exact IBX.keep hgr.2.2.1 (IBX.keep ((Keeps.refl _ wr).alloc _) HR3O.out)
          have hord6 : W6.ownsRow (w.heap.size + 1 + 1 + 1) 3 1 (.slice A lx.length c) lx.length (lx.map fun q : Nat => Value.int .i64 q) := by
            refine own_agree HOWN1.out fun b e => ?_
            have hb := HOWN1.out.lt b e.symm
            rw [hW6, hgr.1 b (fun e2 => hKa.xb (by rw [← e2]; exact e)) (by simp; omega) (fun e2 => hKa.xo e2 e)]
            exact Below.heap_alloc _ _ _ hb.2
          have hs6 := hch6.size
          obtain ⟨o6, ho6⟩ : ∃ l, l = orows ++ [o] := ⟨_, rfl⟩
          have ho6l : o6.length = orows.length + 1 := by rw [ho6]; simp
          rw [← ho6] at hK6
          have HK6 := hid hK6
          have HCH6 := hid hch6
          have HROW6 := hid hrow6
          have HORD6 := hid hord6
          have HO6 := hid ho6
          have HO6L := hid ho6l
          obtain ⟨-, -, -, d3, d4, db, f3, f4⟩ := hK6.cells
          clear hW6 hKa hgr hK6 hch6 hrow6 hord6 ho6 ho6l hown5 hg5 hat5 e5c e5d e5f
          go_wp2_with (at_builtin; go_must (refine wpList_append_rd _ rfl (.tmp 84) (.tmp 86) 22 rfl (w.heap.size + 1 + 1 + 1) 34 i1 _ 1 24 Try.underlying22 htr hy0 hy1 hy2 rfl (by omega) (.slice Bn nrows.length bn) nrows.length _ rfl (HK6.out.on.alloc _) _ (some ⟨W6.heap.size, 0, none⟩) 1 1 _ rfl (Rd.cell1 (cell_new W6 _ _ _ _ _ rfl rfl)) (by simp [Value.oneCell']) (by omega) (maxLen_le (by omega)) (by simp; omega) ?_); intro A7 c7 w7 hown7 hg7 hat7; have e7c := ((HK6.out.later (by go_grown)).grow (HK6.out.later (by go_grown)).on hg7 0 undef).2.2.2; have e7d := block_cell e7c (i := 4) rfl; have e7f := block_free e7c (i := 4))
          have hKa := HK6.out.later (show Below W6.heap.size W6 (W6.alloc (.cells #[.slice A3 n.length c3] 34)) from (Below.refl _ _).alloc (Nat.le_refl _) _)
          have hgr := hKa.grow hKa.on hg7 4 (.slice A7 (nrows.length + 1) c7)
          have hK7 := hKa.next (IBX.keep ((Keeps.refl _ W6).alloc _) HROW6.out) hg7 hown7 hat7
          have hch7 := HCH6.out.trans ((Chg.of_new ((Below.refl _ _).alloc (Nat.le_refl _) _)).trans hgr.2.1)
          have hord7 := own_agree (W := w7.setCell ⟨w.heap.size + 1 + 1, 4, none⟩ (.slice A7 (nrows.length + 1) c7)) HORD6.out fun b e => by
            have hb := HORD6.out.lt b e.symm
            rw [hgr.1 b (fun e2 => hKa.xb (by rw [← e2]; exact e)) (by simp; omega) (fun e2 => hKa.xn e2 e)]
            exact Below.heap_alloc _ _ _ hb.2
          have HK7 := hid hK7
          have HCH7 := hid hch7
          have HORD7 := hid hord7
          clear hKa hgr hK7 hch7 hord7 hown7 hg7 hat7 e7c e7d e7f d3 d4 f3 f4
          go_roundw
          case rel =>
            refine ⟨k + 1, lx, A, c, A5, c5, _, A7, c7, _, o6, nrows ++ [n], by omega, HLXF.out, by go_num, rfl, HORD7.out, ?_, ?_, ?_, ?_, HK7.out, HB.out.trans ((HBZ.out.mono (by omega)).trans (HCH7.out.below (fun a h1 h2 => by omega) (by omega)))⟩
            · rw [HO6.out, bOuts_succ, ← HOR.out, HQO.out, HO2.out, HRE2.out]
            · rw [bNexts_succ, ← HNR.out, HQO.out, HN3.out, HRE3.out]
            · rw [HO6L.out, HOL.out]
            · rw [List.length_append, HNL.out]; rfl
          case measure => simp [intOf]; omega
      -->>
    · have hfin : ord M = l := by
        rw [HL'.out]
        exact (ord_done HOK.out (by rw [← HL'.out]; omega)).symm
      have hkl : k = (ord M).length := by rw [hfin]; omega
      obtain ⟨d0, d1, d2, d3, d4, db, -, -⟩ := HK.out.cells
      have HRR := hid ((HB.out.block _ (by omega)).trans HR2.out)
      have q0 := block_cell HRR.out (i := 0) rfl
      have q1 := block_cell HRR.out (i := 1) rfl
      have q2 := block_cell HRR.out (i := 2) rfl
      have q3 := block_cell HRR.out (i := 3) rfl
      have q4 := block_cell HRR.out (i := 4) rfl
      have z0 := block_free HRR.out (i := 0)
      have z1 := block_free HRR.out (i := 1)
      have z2 := block_free HRR.out (i := 2)
      have z3 := block_free HRR.out (i := 3)
      have z4 := block_free HRR.out (i := 4)
      have hbu2 : build M = ⟨m.ins, m.outs, 0, orows, nrows⟩ := by rw [HBU.out, ← hkl, ← HOR.out, ← HNR.out]
      have HBU2 := hid hbu2
      have HRD := hid (HK.out.reads (by omega) (by omega))
      clear hbu2 hfin hkl
      go_wp2_with fail
      refine bodyPost_gen fun W3 hW3 => ?_
      have hfin := set5_rd (m := ⟨m.ins, m.outs, 0, orows, nrows⟩) (B := w.heap.size + 1 + 1 + 1) HRR.out (w := w) (Chg.of_new HBW.out) (by omega) (by omega) (by omega) HRD.out hW3
      obtain ⟨⟨p0, p1, p2, p3, p4⟩, f1, f2⟩ := hfin
      have F1 := hid f1
      have F2 := hid f2
      clear hW3 q0 q1 q2 q3 q4 z0 z1 z2 z3 z4 d0 d1 d2 d3 d4 f1 f2
      exact bodyPost_ret (v := .agg #[.int .i64 m.ins, .int .i64 m.outs, .int .i64 0, .slice Bo orows.length bo, .slice Bn nrows.length bn]) (by simp [results, Try.results48, go_sem, p0, p1, p2, p3, p4]) rfl ⟨_, rfl, F1.out, by rw [HBU2.out]; exact F2.out⟩
end Go.Proofs.Ytcmhginhfhiolaa
