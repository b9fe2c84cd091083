/-
  Walk of the reference's Loose and Least.
-/
import Derived.Test.YtcmhginhfhiolaaZ12
set_option linter.unusedVariables false
set_option linter.unusedSimpArgs false
namespace Go.Proofs.Ytcmhginhfhiolaa
open Go.RowKit Go.Shelf
attribute [local go_sem] cell_alloc_old

def mlyCells (m : Mly) (Ao : Option Addr) (co : Nat) (An : Option Addr) (cn : Nat) : Array Value := #[.int .i64 m.ins, .int .i64 m.outs, .int .i64 m.start, .slice Ao m.out.length co, .slice An m.next.length cn]
/-- A call returns a controller of which P holds. -/
def Gives (P : Mly → Prop) (w : World) (e : Ending) (w' : World) : Prop := ∃ u X, e = .returned u ∧ Below w.heap.size w w' ∧ RdM w' (fun b => w.heap.size ≤ b) u X ∧ P X
theorem range_snoc (k : Nat) : natZ (List.range (k + 1)) = natZ (List.range k) ++ [(k : Int)] := by unfold natZ; rw [List.range_succ, List.map_append]; rfl

theorem cells7b {w w' : World} {b1 b2 : Nat} {o2 o3 : Nat} {x0 x1 x2 x3 x4 y z : Value} {B : Nat} (h : w.cell? ⟨b1, 0, none⟩ = some x0 ∧ w.cell? ⟨b1, 1, none⟩ = some x1 ∧ w.cell? ⟨b1, 2, none⟩ = some x2 ∧ w.cell? ⟨b1, 3, none⟩ = some x3 ∧ w.cell? ⟨b1, 4, none⟩ = some x4 ∧ w.cell? ⟨b2, o2, none⟩ = some y ∧ w.cell? ⟨b2, o3, none⟩ = some z)
    (hb : Below B w w') (h1 : b1 < B) (h2 : b2 < B) : w'.cell? ⟨b1, 0, none⟩ = some x0 ∧ w'.cell? ⟨b1, 1, none⟩ = some x1 ∧ w'.cell? ⟨b1, 2, none⟩ = some x2 ∧ w'.cell? ⟨b1, 3, none⟩ = some x3 ∧ w'.cell? ⟨b1, 4, none⟩ = some x4 ∧ w'.cell? ⟨b2, o2, none⟩ = some y ∧ w'.cell? ⟨b2, o3, none⟩ = some z :=
  ⟨(hb.cell (p := ⟨b1, 0, none⟩) h1).trans h.1, (hb.cell (p := ⟨b1, 1, none⟩) h1).trans h.2.1, (hb.cell (p := ⟨b1, 2, none⟩) h1).trans h.2.2.1, (hb.cell (p := ⟨b1, 3, none⟩) h1).trans h.2.2.2.1, (hb.cell (p := ⟨b1, 4, none⟩) h1).trans h.2.2.2.2.1, (hb.cell (p := ⟨b2, o2, none⟩) h2).trans h.2.2.2.2.2.1, (hb.cell (p := ⟨b2, o3, none⟩) h2).trans h.2.2.2.2.2.2⟩

set_option maxRecDepth 100000 in
set_option maxHeartbeats 8000000 in
theorem rloose_any {D E : Dom} (v : Value) (m : Mly) (A : Option Addr) (ca : Nat) (care : List (List Bool)) (w : World) (h : RdM w D v m) (hc : RdBB w E A ca care) (hsm : m.out.length ≤ 10000) :
    Calls Try.prog 21 #[v, .slice A care.length ca] w fun e w' => Gives (LooseIs m care (mealyB m && caresB m care)) w e w' := by
  obtain ⟨i0, hti, hz0, hz1, hz2⟩ := info_parts int_info
  have HV := hid h.old
  have HC := hid hc.old
  have hcal := hc.len
  obtain ⟨Ao, co, An, cn, rfl, ho, hn⟩ := h
  have hol := ho.len
  have hnl := hn.len
  clear ho hn hc
  go_enter Try.func21, Try.ntmps21
  go_upto_region 1 with (fail)
  refine wp_gen fun W1 hW1 => ?_
  have hb1 : Below w.heap.size w W1 := by rw [hW1]; go_grown
  have hx1 : W1.heap[w.heap.size]? = some (.cells #[.int .i64 m.ins, .int .i64 m.outs, .int .i64 m.start, .slice Ao m.out.length co, .slice An m.next.length cn] 24 (0, 0)) := by
    rw [hW1]; (repeat (first | (refine at_new _ _ _ ?_; (simp only [World.size_alloc]; done)) | (refine (at_old _ _ _ ?_).trans ?_; (simp only [World.size_alloc]; omega))))
  have hr1 : W1.heap[w.heap.size + 1]? = some (.cells #[.int .i64 0, .int .i64 0, .int .i64 0, .slice none 0 0, .slice none 0 0] 24 (0, 0)) := by
    rw [hW1]; (repeat (first | (refine at_new _ _ _ ?_; (simp only [World.size_alloc]; done)) | (refine (at_old _ _ _ ?_).trans ?_; (simp only [World.size_alloc]; omega))))
  have HB1 := hid hb1
  have HR1 := hid hr1
  have HX1 := hid hx1
  have x0 := block_cell hx1 (i := 0) rfl
  have x1 := block_cell hx1 (i := 1) rfl
  have x2 := block_cell hx1 (i := 2) rfl
  have x3 := block_cell hx1 (i := 3) rfl
  have x4 := block_cell hx1 (i := 4) rfl
  have hs1 : w.heap.size + 1 < W1.heap.size := lt_of_block hr1
  clear hW1 hb1 hx1 hr1
  -- the zero controller
  have hzero : ∀ (w2 : World), Below w.heap.size w w2 → w2.heap[w.heap.size + 1]? = some (.cells #[.int .i64 0, .int .i64 0, .int .i64 0, .slice none 0 0, .slice none 0 0] 24 (0, 0)) → ∀ (P : Mly → Prop), P zeroMly → ∀ W3,
      W3 = ((((w2.setCell ⟨w.heap.size + 1, 0, none⟩ (.int .i64 0)).setCell ⟨w.heap.size + 1, 1, none⟩ (.int .i64 0)).setCell ⟨w.heap.size + 1, 2, none⟩ (.int .i64 0)).setCell ⟨w.heap.size + 1, 3, none⟩ (.slice none 0 0)).setCell ⟨w.heap.size + 1, 4, none⟩ (.slice none 0 0) →
      (W3.cell? ⟨w.heap.size + 1, 0, none⟩ = some (.int .i64 0) ∧ W3.cell? ⟨w.heap.size + 1, 1, none⟩ = some (.int .i64 0) ∧ W3.cell? ⟨w.heap.size + 1, 2, none⟩ = some (.int .i64 0) ∧ W3.cell? ⟨w.heap.size + 1, 3, none⟩ = some (.slice none 0 0) ∧ W3.cell? ⟨w.heap.size + 1, 4, none⟩ = some (.slice none 0 0)) ∧
      Gives P w (.returned (.agg #[.int .i64 0, .int .i64 0, .int .i64 0, .slice none 0 0, .slice none 0 0])) W3 := fun w2 hb2 hr2 P hP W3 hW3 => by
    have hfin := set5_rd (m := zeroMly) (B := w2.heap.size) hr2 (w := w) (Chg.of_new hb2) (by omega) (lt_of_block hr2) hb2.size ⟨none, 0, none, 0, rfl, RdII.nil _ _ _ (by omega), RdII.nil _ _ _ (by omega)⟩ hW3
    exact ⟨hfin.1, _, zeroMly, rfl, hfin.2.1, hfin.2.2, hP⟩
  have HZ := hid hzero
  clear hzero
  go_wp2_with fail
  refine (rmvalid_any _ m W1 (HV.out.keep (Keeps.of_below HB1.out (fun _ h => h)))).mono ?_
  rintro e w2 ⟨rfl, hb2⟩
  have HB2 := hid (HB1.out.trans (hb2.mono HB1.out.size))
  have HR2 := hid ((hb2.block _ (lt_of_block HR1.out)).trans HR1.out)
  have HX2 := hid ((hb2.block _ (lt_of_block HX1.out)).trans HX1.out)
  have hs2 := hb2.size
  clear hb2 HX1 HR1 HB1 x0 x1 x2 x3 x4
  have x0 := block_cell HX2.out (i := 0) rfl
  have x1 := block_cell HX2.out (i := 1) rfl
  have x2 := block_cell HX2.out (i := 2) rfl
  have x3 := block_cell HX2.out (i := 3) rfl
  have x4 := block_cell HX2.out (i := 4) rfl
  cases hm : mealyB m
  · --<<
    have q0 := block_cell HR2.out (i := 0) rfl
    have q1 := block_cell HR2.out (i := 1) rfl
    have q2 := block_cell HR2.out (i := 2) rfl
    have q3 := block_cell HR2.out (i := 3) rfl
    have q4 := block_cell HR2.out (i := 4) rfl
    have z0 := block_free HR2.out (i := 0)
    have z1 := block_free HR2.out (i := 1)
    have z2 := block_free HR2.out (i := 2)
    have z3 := block_free HR2.out (i := 3)
    have z4 := block_free HR2.out (i := 4)
    have HP := hid (show LooseIs m care (mealyB m && caresB m care) zeroMly from ⟨(fun h => by rw [hm] at h; cases h), fun _ => rfl⟩)
    clear hm
    go_wp2_with fail
    refine bodyPost_gen fun W3 hW3 => ?_
    obtain ⟨⟨p0, p1, p2, p3, p4⟩, hgv⟩ := HZ.out w2 HB2.out HR2.out _ HP.out W3 hW3
    have HGV := hid hgv
    clear hW3 hgv q0 q1 q2 q3 q4 z0 z1 z2 z3 z4
    exact bodyPost_ret (v := .agg #[.int .i64 0, .int .i64 0, .int .i64 0, .slice none 0 0, .slice none 0 0]) (by simp [results, Try.results21, go_sem, p0, p1, p2, p3, p4]) rfl HGV.out
    -->>
  · have HMB := hid hm
    clear hm
    go_wp2_with fail
    refine (cares_any _ m A ca care w2 (HV.out.keep (Keeps.of_below HB2.out (fun _ h => h))) (HC.out.keep (Keeps.of_below HB2.out (fun _ h => h)))).mono ?_
    rintro e w3 ⟨rfl, hb3⟩
    have HB3 := hid (HB2.out.trans (hb3.mono HB2.out.size))
    have HR3 := hid ((hb3.block _ (lt_of_block HR2.out)).trans HR2.out)
    have HX3 := hid ((hb3.block _ (lt_of_block HX2.out)).trans HX2.out)
    have hs3 := hb3.size
    clear hb3 HX2 HR2 HB2 x0 x1 x2 x3 x4
    have x0 := block_cell HX3.out (i := 0) rfl
    have x1 := block_cell HX3.out (i := 1) rfl
    have x2 := block_cell HX3.out (i := 2) rfl
    have x3 := block_cell HX3.out (i := 3) rfl
    have x4 := block_cell HX3.out (i := 4) rfl
    cases hcb : caresB m care
    · --<<
      have q0 := block_cell HR3.out (i := 0) rfl
      have q1 := block_cell HR3.out (i := 1) rfl
      have q2 := block_cell HR3.out (i := 2) rfl
      have q3 := block_cell HR3.out (i := 3) rfl
      have q4 := block_cell HR3.out (i := 4) rfl
      have z0 := block_free HR3.out (i := 0)
      have z1 := block_free HR3.out (i := 1)
      have z2 := block_free HR3.out (i := 2)
      have z3 := block_free HR3.out (i := 3)
      have z4 := block_free HR3.out (i := 4)
      have HP := hid (show LooseIs m care (mealyB m && caresB m care) zeroMly from ⟨(fun h => by rw [hcb] at h; simp at h), fun _ => rfl⟩)
      clear hcb
      go_wp2_with fail
      refine bodyPost_gen fun W3 hW3 => ?_
      obtain ⟨⟨p0, p1, p2, p3, p4⟩, hgv⟩ := HZ.out w3 HB3.out HR3.out _ HP.out W3 hW3
      have HGV := hid hgv
      clear hW3 hgv q0 q1 q2 q3 q4 z0 z1 z2 z3 z4
      exact bodyPost_ret (v := .agg #[.int .i64 0, .int .i64 0, .int .i64 0, .slice none 0 0, .slice none 0 0]) (by simp [results, Try.results21, go_sem, p0, p1, p2, p3, p4]) rfl HGV.out
      -->>
    · have hS := sized_of HMB.out
      have HS := hid hS
      have HCB := hid hcb
      obtain ⟨L, hL⟩ : ∃ L, L = posM (careM m care) := ⟨_, rfl⟩
      have hok : L.Ok := by rw [hL]; exact posM_ok (care_ok hS care)
      have hsz : (ordZ (careM m care)).length = L.size := by rw [hL, ordZ_nat, natZ_len]; rfl
      have hszn : (ord (careM m care)).length = L.size := by rw [hL]; rfl
      have hszb : L.size ≤ 3000 := by
        rw [hL]
        exact Nat.le_trans (ord_len (care_ok hS care)) hS.n2
      have hpos : 0 < L.size := by rw [← hszn]; exact ord_pos
      have HL := hid hL
      have HOK := hid hok
      have HSZ := hid hsz
      have HSN := hid hszn
      clear hcb hS hL hok hsz hszn HZ
      go_wp2_with fail
      refine (reached_any _ m A ca care w3 (HV.out.keep (Keeps.of_below HB3.out (fun _ h => h))) (HC.out.keep (Keeps.of_below HB3.out (fun _ h => h))) HS.out HCB.out).mono ?_
      rintro e w4 ⟨As, cs, rfl, hb4, hl4⟩
      have HB4 := hid (HB3.out.trans (hb4.mono HB3.out.size))
      have HR4 := hid ((hb4.block _ (lt_of_block HR3.out)).trans HR3.out)
      have HX4 := hid ((hb4.block _ (lt_of_block HX3.out)).trans HX3.out)
      have HL4 := hid hl4.old
      have hll := hl4.len
      rw [HSZ.out] at hll ⊢
      have hs4 := hb4.size
      clear hb4 HX3 HR3 HB3 x0 x1 x2 x3 x4 hl4
      go_wp2_with fail
      go_loopw [6, 7] (fun s t wr => ∃ (k : Nat) (A : Option Addr) (c : Nat), k ≤ L.size ∧ t = .int .i64 (k : Int) ∧ s = .slice A k c ∧ wr.ownsRow w4.heap.size 3 1 (.slice A k c) k ((natZ (List.range k)).map (.int .i64)) ∧ Below w4.heap.size w4 wr) (fun _ t _ => L.size - (intOf t).toNat)
      case atStart => exact ⟨0, none, 0, Nat.zero_le _, rfl, rfl, ⟨rfl, .inl ⟨rfl, rfl⟩⟩, Below.refl _ _⟩
      case round =>
        obtain ⟨k, B, d, hk, rfl, rfl, hown, hb⟩ := hrel
        have HO := hid hown
        have HB := hid hb
        have hsz := hb.size
        clear hown hb
        by_cases hlt : k < L.size
        · --<<
          have hki : (k : Int) < L.size := by omega
          go_wp2_with (at_builtin; go_must (refine wpList_append_rd _ rfl (.tmp 32) (.tmp 34) 34 rfl w4.heap.size 3 i0 _ 1 8 Try.underlying34 hti hz0 hz1 hz2 rfl (by omega) (.slice B k d) k _ rfl (HO.out.alloc _) _ (some ⟨wr.heap.size, 0, none⟩) 1 1 _ rfl (Rd.cell1 (cell_new wr _ _ _ _ _ rfl rfl)) (by simp [Value.oneCell']) (by omega) (maxLen_le (by omega)) (by simp; omega) ?_); intro A5 c5 w5 hown5 hg5 hat5)
          have hb5 := Below.grown (B := w4.heap.size) (HB.out.trans ((show Below wr.heap.size wr _ from by go_grown).mono hsz)) hg5 (by simp; omega) (fun k hk => (HO.out.lt k hk).1)
          have HO5 := hid hown5
          have HB5 := hid hb5
          clear hown5 hg5 hat5 hb5
          go_roundw
          case rel => exact ⟨k + 1, A5, c5, by omega, by go_num, rfl, by rw [range_snoc, List.map_append]; exact HO5.out, HB5.out⟩
          case measure => simp [intOf]; omega
          -->>
        · obtain rfl : k = L.size := by omega
          have hrd : RdI wr (fun b => w4.heap.size ≤ b) B d (natZ (List.range L.size)) := by
            unfold RdI
            rw [natZ_len, List.length_range]
            exact Rd.own HO.out (by omega) (fun _ h => h)
          have HRD := hid hrd
          clear HO hrd
          obtain ⟨wy, rfl⟩ : ∃ wy : World, wy = wr := ⟨_, rfl⟩
          go_wp2_with fail
          go_loopw [6, 8] (fun s t wr => ∃ (n : Nat) (cl : List Nat) (A : Option Addr) (c : Nat), 1 ≤ n ∧ n ≤ L.size ∧ t = .int .i64 (n : Int) ∧ s = .slice A cl.length c ∧ MrgI L n cl ∧ RdI wr (fun _ => True) A c (natZ cl) ∧ Below w4.heap.size w4 wr) (fun _ t _ => L.size - (intOf t).toNat)
          case atStart => exact ⟨1, List.range L.size, B, d, Nat.le_refl _, by omega, rfl, by rw [List.length_range], MrgI.one, HRD.out.mono (fun _ _ _ => trivial), HB.out⟩
          case round =>
            clear HB HRD hsz
            obtain ⟨n, cl, Ac, cc, hn1, hn, rfl, rfl, hmi, hrd, hb⟩ := hrel
            have HMI := hid hmi
            have HRD := hid hrd
            have HB := hid hb
            have hcl1 : cl.length ≤ L.size := by rw [hmi.len]; exact Nat.le_refl _
            have hcl2 : L.size ≤ cl.length := by rw [hmi.len]; exact Nat.le_refl _
            clear hmi hrd hb
            by_cases hnl2 : n < L.size
            · have hni : (n : Int) < L.size := by omega
              obtain ⟨wz, rfl⟩ : ∃ wz : World, wz = wr := ⟨_, rfl⟩
              go_wp2_with fail
              go_loopw [6, 9, 10] (fun s s9 t wr => ∃ (k : Nat) (cl : List Nat) (A : Option Addr) (c : Nat) (d : Bool), k ≤ n ∧ t = .int .i64 (k : Int) ∧ s = .slice A cl.length c ∧ s9 = .bool d ∧ TryI L n k cl d ∧ RdI wr (fun _ => True) A c (natZ cl) ∧ Below w4.heap.size w4 wr) (fun _ _ t _ => n - (intOf t).toNat)
              case atStart => exact ⟨0, cl, Ac, cc, false, Nat.zero_le _, rfl, rfl, rfl, HMI.out.start, HRD.out, HB.out⟩
              case round =>
                clear HMI HRD HB hcl1 hcl2
                obtain ⟨k, cl, Ac, cc, d, hk, rfl, rfl, rfl, hti2, hrd, hb⟩ := hrel
                have HTI := hid hti2
                have HRD := hid hrd
                have HB := hid hb
                have hcl1 : cl.length ≤ L.size := by rw [hti2.len]; exact Nat.le_refl _
                have hcl2 : L.size ≤ cl.length := by rw [hti2.len]; exact Nat.le_refl _
                clear hti2 hrd hb
                by_cases hkn : k < n
                · have hkni : (k : Int) < n := by omega
                  cases d with
                  | true =>
                    have HF := hid (HTI.out.finish hk (.inr rfl))
                    go_wp2_with fail
                    go_roundw
                    case rel => exact ⟨n + 1, cl, Ac, cc, by omega, by omega, by go_num, rfl, HF.out, HRD.out, HB.out⟩
                    case measure => simp [intOf]; omega
                  | false =>
                    obtain ⟨b1, o1, hAc, hbd, hbl, hcells⟩ := HRD.out.ptr (by rw [natZ_len]; omega)
                    subst hAc
                    have g1 := hcells n (by rw [natZ_len]; omega)
                    have g2 := hcells k (by rw [natZ_len]; omega)
                    rw [natZ_get _ (by omega)] at g1 g2
                    obtain ⟨a1, ha1⟩ : ∃ a, cl.getD n 0 = a := ⟨_, rfl⟩
                    obtain ⟨a2, ha2⟩ : ∃ a, cl.getD k 0 = a := ⟨_, rfl⟩
                    rw [ha1] at g1
                    rw [ha2] at g2
                    have HA1 := hid ha1
                    have HA2 := hid ha2
                    have hncl : (n : Int) < cl.length := by omega
                    have hkcl : (k : Int) < cl.length := by omega
                    clear hcells ha1 ha2
                    by_cases hab : a1 = a2
                    · have n5 : ((a1 : Int) != (a2 : Int)) = false := by rw [hab]; simp
                      have HSK := hid (HTI.out.skip hnl2 (by omega) (show RelC cl n k by unfold RelC; rw [HA1.out, HA2.out, hab]))
                      clear hab
                      go_wp2_with fail
                      go_quiet (fail)
                      go_wp2_with fail
                      go_roundw
                      case rel => exact ⟨k + 1, cl, _, cc, false, by omega, by go_num, rfl, rfl, HSK.out, HRD.out.keep (Drawn.n wr _).keeps, below_drewN HB.out _⟩
                      case measure => simp [intOf]; omega
                    · have n5 : ((a1 : Int) != (a2 : Int)) = true := by simp; omega
                      have HNE := hid (show ¬ RelC cl n k by unfold RelC; rw [HA1.out, HA2.out]; exact hab)
                      have hbx := HB.out.block w.heap.size (by omega)
                      have HXR := hid (hbx.trans HX4.out)
                      have x0 := block_cell HXR.out (i := 0) rfl
                      have x1 := block_cell HXR.out (i := 1) rfl
                      have x2 := block_cell HXR.out (i := 2) rfl
                      have x3 := block_cell HXR.out (i := 3) rfl
                      have x4 := block_cell HXR.out (i := 4) rfl
                      have hbw : Below w.heap.size w wr := HB4.out.trans (HB.out.mono HB4.out.size)
                      have HBWR := hid hbw
                      have hxw : w.heap.size < wr.heap.size := lt_of_block HXR.out
                      have HS7 := hid (show wr.cell? ⟨w.heap.size, 0, none⟩ = some (.int .i64 m.ins) ∧ wr.cell? ⟨w.heap.size, 1, none⟩ = some (.int .i64 m.outs) ∧ wr.cell? ⟨w.heap.size, 2, none⟩ = some (.int .i64 m.start) ∧ wr.cell? ⟨w.heap.size, 3, none⟩ = some (.slice Ao m.out.length co) ∧
                        wr.cell? ⟨w.heap.size, 4, none⟩ = some (.slice An m.next.length cn) ∧ wr.cell? ⟨b1, o1 + n, none⟩ = some (.int .i64 (a1 : Int)) ∧ wr.cell? ⟨b1, o1 + k, none⟩ = some (.int .i64 (a2 : Int)) from ⟨x0, x1, x2, x3, x4, g1, g2⟩)
                      have huni : ∀ W' (a b : Nat), Below wr.heap.size wr W' → Calls Try.prog 47 #[.slice (some ⟨b1, o1, none⟩) cl.length cc, .int .i64 (a : Int), .int .i64 (b : Int)] W' fun e w' => ∃ A' c', e = .returned (.slice A' (unitedN cl a b).length c') ∧ Below W'.heap.size W' w' ∧ RdI w' (fun k => W'.heap.size ≤ k) A' c' (natZ (unitedN cl a b)) := fun W' a b hW' => by
                        have := united_any (some ⟨b1, o1, none⟩) cc (natZ cl) a b W' ((HRD.out.old.keep (Keeps.of_below hW' fun _ h => h))) (by rw [natZ_len]; omega)
                        rw [unitedZ_nat, natZ_len, natZ_len] at this
                        exact this
                      have hclo : ∀ W' (a b : Nat) (A' : Option Addr) (c' : Nat), Below wr.heap.size wr W' → RdI W' (fun _ => True) A' c' (natZ (unitedN cl a b)) → ((a = cl.getD n 0 ∧ b = cl.getD k 0) ∨ (a = cl.getD k 0 ∧ b = cl.getD n 0)) → Calls Try.prog 46
                          #[.agg #[.int .i64 m.ins, .int .i64 m.outs, .int .i64 m.start, .slice Ao m.out.length co, .slice An m.next.length cn], .slice A care.length ca, .slice As L.size cs, .slice A' (unitedN cl a b).length c'] W' fun e w' => ClosedSays L (unitedN cl a b) W' e w' := fun W' a b A' c' hW' hr hab => by
                        have hk : Keeps (fun b => b < w.heap.size) w W' := Keeps.of_below (HBWR.out.trans (hW'.mono HBWR.out.size)) fun _ h => h
                        have hlt : ∀ i, i < L.size → (unitedN cl a b).getD i 0 < L.size := fun i hi => by
                          rw [unitedN_get cl a b (by rw [HTI.out.len]; exact hi)]
                          have h1 := HTI.out.lt n hnl2
                          have h2 := HTI.out.lt k (by omega)
                          have h3 := HTI.out.lt i hi
                          split <;> omega
                        have := rclosed_any _ m A ca care As cs A' c' (unitedN cl a b) W' (HV.out.keep hk) (HC.out.keep hk) (HL4.out.keep (Keeps.of_below (HB.out.trans (hW'.mono HB.out.size)) fun _ h => h)) hr HS.out HCB.out (by rw [unitedN_len, HTI.out.len, HSN.out]) (fun i hi => by rw [HSN.out] at hi ⊢; exact hlt i hi)
                        rw [HSZ.out, natZ_len, ← HL.out] at this
                        exact this
                      have HUNI := hid huni
                      have HCLO := hid hclo
                      have hB2 : ∀ W', Below wr.heap.size wr W' → Below w4.heap.size w4 W' := fun W' hW' => HB.out.trans (hW'.mono HB.out.size)
                      have HB2 := hid hB2
                      clear hbx hbw huni hclo hB2
                      rcases Nat.lt_or_gt_of_ne hab with hlt | hlt
                      · have hlt3 : (a1 : Int) < a2 := by omega
                        have hng : (a2 < a1) = False := by simp; omega
                        have HSD := hid (show (a1 = cl.getD n 0 ∧ a2 = cl.getD k 0) ∨ (a1 = cl.getD k 0 ∧ a2 = cl.getD n 0) from .inl ⟨HA1.out.symm, HA2.out.symm⟩)
                        clear hab
                        go_wp2_with fail
                        go_quiet (fail)
                        go_wp2_with fail
                        go_region_held3 (fun w' => w'.cell? ⟨w.heap.size, 0, none⟩ = some (.int .i64 m.ins) ∧ w'.cell? ⟨w.heap.size, 1, none⟩ = some (.int .i64 m.outs) ∧ w'.cell? ⟨w.heap.size, 2, none⟩ = some (.int .i64 m.start) ∧ w'.cell? ⟨w.heap.size, 3, none⟩ = some (.slice Ao m.out.length co) ∧
                            w'.cell? ⟨w.heap.size, 4, none⟩ = some (.slice An m.next.length cn) ∧ w'.cell? ⟨b1, o1 + n, none⟩ = some (.int .i64 (a1 : Int)) ∧ w'.cell? ⟨b1, o1 + k, none⟩ = some (.int .i64 (a2 : Int)))
                          (first
                            | go_keep
                            | exact cells7b HS7.out hb6 hxw hbl
                            | exact cells7b HS7.out hb5 hxw hbl)
                          (first
                            | (go_at_call 47
                               refine (HUNI.out _ a1 a2 ((Drawn.n wr _).below wr.heap.size)).mono ?_
                               rintro e w5 ⟨A5, c5, rfl, hb5', hr5⟩
                               have hb5 : Below wr.heap.size wr w5 := ((Drawn.n wr _).below wr.heap.size).trans hb5')
                            | (go_at_call 46
                               refine (HCLO.out _ a1 a2 A5 c5 hb5 (hr5.mono fun _ _ _ => trivial) HSD.out).mono ?_
                               rintro e w6 ⟨A6, c6, cl6, ok, rfl, hc6, hl6, hb6', hr6⟩
                               have hb6 : Below wr.heap.size wr w6 := hb5.trans (hb6'.mono hb5.size)))
                        all_goals
                          have HB6 := hid (HB2.out _ hb6)
                          have HC6 := hid hc6
                          have HR6 := hid hr6
                          have HBA := hid hb6
                          clear hb5 hb5' hr5 hc6 hl6 hb6' hr6 hb6 x0 x1 x2 x3 x4 g1 g2 hng
                          cases ok with
                          | true =>
                            have HY := hid (HTI.out.yes hnl2 (by omega) HNE.out HSD.out HC6.out)
                            go_wp2_with fail
                            go_roundw
                            case rel => exact ⟨k + 1, cl6, A6, c6, true, by omega, by go_num, by rw [natZ_len], rfl, HY.out, HR6.out.mono (fun _ _ _ => trivial), HB6.out⟩
                            case measure => simp [intOf]; omega
                          | false =>
                            have HY := hid (HTI.out.no hnl2 (by omega) HSD.out HC6.out)
                            go_wp2_with fail
                            go_roundw
                            case rel => exact ⟨k + 1, cl, _, cc, false, by omega, by go_num, rfl, rfl, HY.out, (HRD.out.old.keep (Keeps.of_below HBA.out fun _ h => h)).mono (fun _ _ _ => trivial), HB6.out⟩
                            case measure => simp [intOf]; omega
                      · have hlt3 : (a2 : Int) < a1 := by omega
                        have hng : (a1 < a2) = False := by simp; omega
                        have HSD := hid (show (a2 = cl.getD n 0 ∧ a1 = cl.getD k 0) ∨ (a2 = cl.getD k 0 ∧ a1 = cl.getD n 0) from .inr ⟨HA2.out.symm, HA1.out.symm⟩)
                        clear hab
                        go_wp2_with fail
                        go_quiet (fail)
                        go_wp2_with fail
                        go_region_held3 (fun w' => w'.cell? ⟨w.heap.size, 0, none⟩ = some (.int .i64 m.ins) ∧ w'.cell? ⟨w.heap.size, 1, none⟩ = some (.int .i64 m.outs) ∧ w'.cell? ⟨w.heap.size, 2, none⟩ = some (.int .i64 m.start) ∧ w'.cell? ⟨w.heap.size, 3, none⟩ = some (.slice Ao m.out.length co) ∧
                            w'.cell? ⟨w.heap.size, 4, none⟩ = some (.slice An m.next.length cn) ∧ w'.cell? ⟨b1, o1 + n, none⟩ = some (.int .i64 (a1 : Int)) ∧ w'.cell? ⟨b1, o1 + k, none⟩ = some (.int .i64 (a2 : Int)))
                          (first
                            | go_keep
                            | exact cells7b HS7.out hb6 hxw hbl
                            | exact cells7b HS7.out hb5 hxw hbl)
                          (first
                            | (go_at_call 47
                               refine (HUNI.out _ a2 a1 ((Drawn.n wr _).below wr.heap.size)).mono ?_
                               rintro e w5 ⟨A5, c5, rfl, hb5', hr5⟩
                               have hb5 : Below wr.heap.size wr w5 := ((Drawn.n wr _).below wr.heap.size).trans hb5')
                            | (go_at_call 46
                               refine (HCLO.out _ a2 a1 A5 c5 hb5 (hr5.mono fun _ _ _ => trivial) HSD.out).mono ?_
                               rintro e w6 ⟨A6, c6, cl6, ok, rfl, hc6, hl6, hb6', hr6⟩
                               have hb6 : Below wr.heap.size wr w6 := hb5.trans (hb6'.mono hb5.size)))
                        all_goals
                          have HB6 := hid (HB2.out _ hb6)
                          have HC6 := hid hc6
                          have HR6 := hid hr6
                          have HBA := hid hb6
                          clear hb5 hb5' hr5 hc6 hl6 hb6' hr6 hb6 x0 x1 x2 x3 x4 g1 g2 hng
                          cases ok with
                          | true =>
                            have HY := hid (HTI.out.yes hnl2 (by omega) HNE.out HSD.out HC6.out)
                            go_wp2_with fail
                            go_roundw
                            case rel => exact ⟨k + 1, cl6, A6, c6, true, by omega, by go_num, by rw [natZ_len], rfl, HY.out, HR6.out.mono (fun _ _ _ => trivial), HB6.out⟩
                            case measure => simp [intOf]; omega
                          | false =>
                            have HY := hid (HTI.out.no hnl2 (by omega) HSD.out HC6.out)
                            go_wp2_with fail
                            go_roundw
                            case rel => exact ⟨k + 1, cl, _, cc, false, by omega, by go_num, rfl, rfl, HY.out, (HRD.out.old.keep (Keeps.of_below HBA.out fun _ h => h)).mono (fun _ _ _ => trivial), HB6.out⟩
                            case measure => simp [intOf]; omega
                · obtain rfl : k = n := by omega
                  have HF := hid (HTI.out.finish hk (.inl rfl))
                  go_wp2_with fail
                  go_roundw
                  case rel => exact ⟨k + 1, cl, Ac, cc, by omega, by omega, by go_num, rfl, HF.out, HRD.out, HB.out⟩
                  case measure => simp [intOf]; omega
            · obtain rfl : n = L.size := by omega
              have HQ := hid (HMI.out.quo HOK.out)
              have HXR := hid ((HB.out.block w.heap.size (by omega)).trans HX4.out)
              have HRR := hid ((HB.out.block (w.heap.size + 1) (by omega)).trans HR4.out)
              have x0 := block_cell HXR.out (i := 0) rfl
              have x1 := block_cell HXR.out (i := 1) rfl
              have x2 := block_cell HXR.out (i := 2) rfl
              have x3 := block_cell HXR.out (i := 3) rfl
              have x4 := block_cell HXR.out (i := 4) rfl
              have hbw : Below w.heap.size w wr := HB4.out.trans (HB.out.mono HB4.out.size)
              have HBWR := hid hbw
              have hnum : Calls Try.prog 48 #[.agg #[.int .i64 m.ins, .int .i64 m.outs, .int .i64 m.start, .slice Ao m.out.length co, .slice An m.next.length cn], .slice A care.length ca, .slice As L.size cs, .slice Ac cl.length cc] wr
                  fun e w' => ∃ u, e = .returned u ∧ Below wr.heap.size wr w' ∧ RdM w' (fun b => wr.heap.size ≤ b) u (build (quoM L cl)) := by
                have hk : Keeps (fun b => b < w.heap.size) w wr := Keeps.of_below hbw fun _ h => h
                have := rnumbered_any _ m A ca care As cs Ac cc cl wr (HV.out.keep hk) (HC.out.keep hk) (HL4.out.keep (Keeps.of_below HB.out fun _ h => h)) HRD.out HS.out HCB.out (by rw [HMI.out.len, HSN.out]) (fun i hi => by rw [HSN.out] at hi ⊢; exact HMI.out.lt i hi)
                rw [HSZ.out, ← HL.out] at this
                exact this
              have HNUM := hid hnum
              clear hbw hnum
              go_wp2_with fail
              refine HNUM.out.mono ?_
              rintro e w6 ⟨u, rfl, hb6, hr6⟩
              have hb6' := HBWR.out.trans (hb6.mono HBWR.out.size)
              have HB6 := hid hb6'
              have HRR6 := hid ((hb6.block _ (lt_of_block HRR.out)).trans HRR.out)
              obtain ⟨Bo, bo, Bn, bn, rfl, ho, hn⟩ := hr6
              obtain ⟨X, hX⟩ : ∃ X, X = build (quoM L cl) := ⟨_, rfl⟩
              rw [← hX] at ho hn
              have HRM := hid (show RdM w6 (fun b => wr.heap.size ≤ b) (.agg #[.int .i64 X.ins, .int .i64 X.outs, .int .i64 X.start, .slice Bo X.out.length bo, .slice Bn X.next.length bn]) X from ⟨Bo, bo, Bn, bn, rfl, ho, hn⟩)
              rw [← hX]
              have HXE := hid hX
              have hwr1 : w.heap.size + 1 < wr.heap.size := lt_of_block HRR.out
              have q0 := block_cell HRR6.out (i := 0) rfl
              have q1 := block_cell HRR6.out (i := 1) rfl
              have q2 := block_cell HRR6.out (i := 2) rfl
              have q3 := block_cell HRR6.out (i := 3) rfl
              have q4 := block_cell HRR6.out (i := 4) rfl
              have z0 := block_free HRR6.out (i := 0)
              have z1 := block_free HRR6.out (i := 1)
              have z2 := block_free HRR6.out (i := 2)
              have z3 := block_free HRR6.out (i := 3)
              have z4 := block_free HRR6.out (i := 4)
              clear hb6 hb6' ho hn hX x0 x1 x2 x3 x4
              go_wp2_with fail
              refine bodyPost_gen fun W3 hW3 => ?_
              have hfin := set5_rd (m := X) (B := wr.heap.size) HRR6.out (w := w) (Chg.of_new HB6.out) (by omega) (by omega) (by omega) HRM.out hW3
              obtain ⟨⟨p0, p1, p2, p3, p4⟩, f1, f2⟩ := hfin
              have F1 := hid f1
              have F2 := hid f2
              clear hW3 q0 q1 q2 q3 q4 z0 z1 z2 z3 z4 f1 f2
              exact bodyPost_ret (v := .agg #[.int .i64 X.ins, .int .i64 X.outs, .int .i64 X.start, .slice Bo X.out.length bo, .slice Bn X.next.length bn]) (by simp [results, Try.results21, go_sem, p0, p1, p2, p3, p4]) rfl
                ⟨_, X, rfl, F1.out, F2.out, ⟨(fun _ => by rw [HXE.out, ← HL.out]; exact HQ.out), fun h => by rw [HMB.out, HCB.out] at h; cases h⟩⟩
end Go.Proofs.Ytcmhginhfhiolaa
