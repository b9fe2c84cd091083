/-
  Walk of build.
  Walk of search's function: whatever is done in the rounds, they come in the order of the search.
  Walk of search and order.
-/
import Derived.Deep.DeepMust
import Derived.Test.YtcmhginhfhiolaaZ01
import Derived.RangeFuncNested
import Derived.RangeFuncBound
import Derived.RangeFuncCalls
import Derived.RangeFuncLeaves
import Derived.OwnWalkIn
import Derived.TacticsInMore
import Derived.StillTailTactics
import Derived.Shelf.Abstract
import Derived.Maps.OwnIn
set_option linter.unusedVariables false
set_option linter.unusedSimpArgs false
namespace Go.Proofs.Ytcmhginhfhiolaa
open Go.RowKit
attribute [local go_sem] cell_alloc_old

theorem bodyPost_gen {P : Program} {f : Func} {Q : Ending → World → Prop} {e : Exit} {a : Act} {w : World} (h : ∀ W, W = w → bodyPost P f Q e a W) : bodyPost P f Q e a w := h w rfl
theorem rows_info : (Try.prog.info? 34).map (fun i => (i.zero, i.size, i.bytes)) = some (some (.slice none 0 0), 1, 24) := by kernel_rfl
def machV (fn : Nat) (caps : Array Value) (M : Mac) : Value := .agg #[.int .i64 M.size, .int .i64 M.start, .int .i64 M.ins, .int .i64 M.outs, .func (.func fn) #[] caps]
def ordZ (M : Mac) : List Int := (ord M).map fun q : Nat => (q : Int)
def numsZ (M : Mac) : List Int := (List.range M.size).map fun q => if q ∈ ord M then ((ord M).idxOf q : Int) else 0
theorem ordZ_len (M : Mac) : (ordZ M).length = (ord M).length := by simp [ordZ]
theorem numsZ_len (M : Mac) : (numsZ M).length = M.size := by simp [numsZ]
theorem ordZ_get (M : Mac) {k : Nat} (h : k < (ord M).length) : (ordZ M).getD k 0 = ((ord M).getD k 0 : Int) := by simp [ordZ, List.getD, h]
theorem numsZ_get (M : Mac) (h : M.Ok) {q : Nat} (hq : q ∈ ord M) : (numsZ M).getD q 0 = ((ord M).idxOf q : Int) := by
  have := ord_lt h q hq
  simp [numsZ, List.getD, this, hq]
def OrdSays (fn : Nat) (caps : Array Value) (M : Mac) (I : World → Prop) (V : Dom) (B : Nat) : Prop :=
  ∀ W, I W → B ≤ W.heap.size → Calls Try.prog 54 #[machV fn caps M] W fun e W' =>
    ∃ A c A' c', e = .returned (.tuple #[.slice A (ordZ M).length c, .slice A' (numsZ M).length c']) ∧ I W' ∧ Chg V W W' ∧ RdI W' (fun b => W.heap.size ≤ b) A c (ordZ M) ∧ RdI W' (fun b => W.heap.size ≤ b) A' c' (numsZ M)
/-- The first x numbers are told by f, the others are 0. -/
def rowP (f : Nat → Int) (x n : Nat) : List Int := (List.range n).map fun j => if j < x then f j else 0
theorem rowP_len (f : Nat → Int) (x n : Nat) : (rowP f x n).length = n := by simp [rowP]
theorem rowP_zero (f : Nat → Int) (n : Nat) : (rowP f 0 n).map (Value.int .i64) = List.replicate n (.int .i64 0) := by
  unfold rowP
  rw [List.map_map]
  apply List.ext_getElem
  · simp
  · intro i h1 h2; simp
theorem rowP_set (f : Nat → Int) {x n : Nat} (h : x < n) : (rowP f x n).set x (f x) = rowP f (x + 1) n := by
  unfold rowP
  apply List.ext_getElem
  · simp
  · intro i h1 h2
    simp at h1 h2
    rw [List.getElem_set]
    simp only [List.getElem_map, List.getElem_range]
    split
    · rename_i e; subst e; rw [if_pos (by omega)]
    · by_cases hi : i < x
      · rw [if_pos hi, if_pos (by omega)]
      · rw [if_neg hi, if_neg (by omega)]
theorem rowP_skip (f : Nat → Int) {x n : Nat} (h : f x = 0) : rowP f x n = rowP f (x + 1) n := by
  unfold rowP
  apply List.map_congr_left
  intro j _
  by_cases e : j = x
  · subst e; rw [if_neg (by omega), if_pos (by omega), h]
  · by_cases hi : j < x
    · rw [if_pos hi, if_pos (by omega)]
    · rw [if_neg hi, if_neg (by omega)]
theorem rowP_full (f : Nat → Int) (n : Nat) : rowP f n n = (List.range n).map f := by
  unfold rowP
  apply List.map_congr_left
  intro j hj
  rw [List.mem_range] at hj
  rw [if_pos hj]
theorem bOut_row (M : Mac) (q : Nat) : bOut M q = rowP (mvO M q) M.ins M.ins := by rw [rowP_full]; rfl
def nxF (M : Mac) (n q x : Nat) : Int := match M.mv q x with | some (_, t) => ((ord M).idxOf t : Int) | none => (n : Int)
theorem bNext_row (M : Mac) (n q : Nat) : bNext M (ord M) n q = rowP (nxF M n q) M.ins M.ins := by rw [rowP_full]; rfl

set_option maxRecDepth 100000 in
set_option maxHeartbeats 8000000 in
theorem build_any (fn : Nat) (caps : Array Value) (M : Mac) (I : World → Prop) (V : Dom) (B : Nat) (hmv : MvF fn caps M I V B) (hord : OrdSays fn caps M I V B) (hM : M.Ok) (hs : M.size ≤ 10000) (hi : M.ins ≤ 64)
    (w : World) (hI : I w) (hB : B ≤ w.heap.size) :
    Calls Try.prog 33 #[machV fn caps M] w fun e w' => ∃ u, e = .returned u ∧ I w' ∧ Chg V w w' ∧ RdM w' (fun b => w.heap.size ≤ b) u (build M) := by
  obtain ⟨i0, hti, hz0, hz1, hz2⟩ := info_parts int_info
  obtain ⟨i1, htr, hy0, hy1, hy2⟩ := info_parts rows_info
  have HM := hid hmv
  have HO := hid hord
  have HOK := hid hM
  have HV : Hid (∀ b, w.heap.size ≤ b → ¬ V b) := hid fun b hb hv => by have := hmv.priv b hv; omega
  have HI := hid hI
  have hen := hmv.enter
  clear hmv hord hM hI
  unfold machV
  have hmk := run_make_zrow (P := Try.prog) 34 3 i0 (.int .i64 0) 8 Try.underlying34 hti hz0 hz1 hz2 rfl .i64 .i64 M.ins (by omega) (by omega)
  go_enter Try.func33, Try.ntmps33
  go_upto_region 1 with (fail)
  refine wp_gen fun W1 hW1 => ?_
  have hb1 : Below w.heap.size w W1 := by rw [hW1]; go_grown
  have hx1 : W1.heap[w.heap.size]? = some (.cells #[.int .i64 M.size, .int .i64 M.start, .int .i64 M.ins, .int .i64 M.outs, .func (.func fn) #[] caps] 50 (0, 0)) := by
    rw [hW1]; exact (Below.heap_alloc _ _ _ (by simp)).trans (heap_alloc_new w _)
  have hr1 : W1.heap[w.heap.size + 1]? = some (.cells #[.int .i64 0, .int .i64 0, .int .i64 0, .slice none 0 0, .slice none 0 0] 24 (0, 0)) := by
    rw [hW1]; have := heap_alloc_new (w.alloc (.cells #[.int .i64 M.size, .int .i64 M.start, .int .i64 M.ins, .int .i64 M.outs, .func (.func fn) #[] caps] 50)) (.cells #[.int .i64 0, .int .i64 0, .int .i64 0, .slice none 0 0, .slice none 0 0] 24)
    rwa [World.size_alloc] at this
  have hI1 := HM.out.keep _ _ HI.out hB (hb1.mono hB)
  have HB1 := hid hb1
  have HX1 := hid hx1
  have HR1 := hid hr1
  have HI1 := hid hI1
  have x0 := block_cell hx1 (i := 0) rfl
  have x1 := block_cell hx1 (i := 1) rfl
  have x2 := block_cell hx1 (i := 2) rfl
  have x3 := block_cell hx1 (i := 3) rfl
  have x4 := block_cell hx1 (i := 4) rfl
  have hs1 : w.heap.size + 1 < W1.heap.size := lt_of_block hr1
  have hBW : B ≤ W1.heap.size := by omega
  clear hb1 hx1 hr1 hI1 hW1
  go_wp2_with fail
  refine (HO.out W1 HI1.out hBW).mono ?_
  rintro e w2 ⟨L, lc, N, nc, rfl, hI2, hch, hl, hn⟩
  have HX2 := hid (hch.box HX1.out (HV.out _ (Nat.le_refl _)))
  have HR2 := hid (hch.box HR1.out (HV.out _ (by omega)))
  have HC2 := hid ((Chg.of_new (V := V) HB1.out).trans hch)
  have HL := hid (hl.mono (E := fun k => w.heap.size ≤ k ∧ k < w2.heap.size) fun k h1 h2 => ⟨by omega, h2⟩)
  have HN := hid (hn.mono (E := fun k => w.heap.size ≤ k ∧ k < w2.heap.size) fun k h1 h2 => ⟨by omega, h2⟩)
  have hll := hl.len.1
  have hnl := hn.len.1
  have hs2 := hch.size
  have HI2 := hid hI2
  have x2 := block_cell HX2.out (i := 2) rfl
  have x3 := block_cell HX2.out (i := 3) rfl
  clear hch hl hn x0 x1 x4 hI2
  go_upto_region 3 with (fail)
  refine wp_gen fun W3 hW3 => ?_
  have hb3 : Below w2.heap.size w2 W3 := by rw [hW3]; go_grown
  have hm3 : W3.heap[w2.heap.size]? = some (.cells #[.int .i64 M.ins, .int .i64 M.outs, .int .i64 0, .slice none 0 0, .slice none 0 0] 24 (0, 0)) := by rw [hW3]; exact heap_alloc_new w2 _
  obtain ⟨b, hbe⟩ : ∃ b, b = w2.heap.size := ⟨_, rfl⟩
  rw [← hbe] at hm3 ⊢
  have hK3 : Mk W3.heap.size W3 b M.ins M.outs 0 [] none 0 [] [] none 0 [] :=
    ⟨hm3, ⟨rfl, .inl ⟨rfl, rfl⟩⟩, ⟨rfl, .inl ⟨rfl, rfl⟩⟩, Rows.nil _ _ _, Rows.nil _ _ _, fun b h => by cases h⟩
  have hs3 := lt_of_block hm3
  have HVB : Hid (∀ k, ¬ V k → k ≠ b → k < W3.heap.size → ¬ (V k ∨ k = b ∨ W3.heap.size ≤ k)) := hid (fun k h1 h2 h3 h4 => by
    rcases h4 with h4 | h4 | h4
    · exact h1 h4
    · exact h2 h4
    · omega)
  have HK3 := hid hK3
  have HX3 := hid ((hb3.block _ (lt_of_block HX2.out)).trans HX2.out)
  have HR3 := hid ((hb3.block _ (lt_of_block HR2.out)).trans HR2.out)
  have HC3 := hid (HC2.out.trans (Chg.of_new hb3))
  have HDX := hid (HVB.out w.heap.size (HV.out _ (Nat.le_refl _)) (by omega) (by omega))
  have HDR := hid (HVB.out (w.heap.size + 1) (HV.out _ (by omega)) (by omega) (by omega))
  have HL3 := hid ((HL.out.keep (Keeps.of_below hb3 (fun _ h => h.2))).mono (E := fun k => ¬ (V k ∨ k = b ∨ W3.heap.size ≤ k)) fun k h1 h2 => HVB.out k (HV.out k h1.1) (by omega) h2)
  have HN3 := hid ((HN.out.keep (Keeps.of_below hb3 (fun _ h => h.2))).mono (E := fun k => ¬ (V k ∨ k = b ∨ W3.heap.size ≤ k)) fun k h1 h2 => HVB.out k (HV.out k h1.1) (by omega) h2)
  have HI3 := hid (HM.out.keep _ _ HI2.out (by omega) (hb3.mono (by omega)))
  have hbw : w.heap.size + 1 < b := by omega
  have hln : (ordZ M).length ≤ 10000 := by rw [ordZ_len]; have := ord_len HOK.out; omega
  clear hm3 hK3 hW3 hb3 x2 x3 hbe hs2
  go_wp2_with fail
  go_loopw [25] (fun t wr => ∃ (k : Nat) (Ao : Option Addr) (co : Nat) (vo : List Value) (An : Option Addr) (cn : Nat) (vn : List Value) (orows nrows : List (List Int)), k ≤ (ordZ M).length ∧ t = .int .i64 (k : Int) ∧ orows = bOuts M k ∧ nrows = bNexts M k ∧
    orows.length = k ∧ nrows.length = k ∧ Mk W3.heap.size wr b M.ins M.outs 0 orows Ao co vo nrows An cn vn ∧ I wr ∧ Chg (fun k => V k ∨ k = b ∨ W3.heap.size ≤ k) W3 wr) (fun t _ => (ordZ M).length - (intOf t).toNat)
  case atStart => exact ⟨0, none, 0, [], none, 0, [], [], [], Nat.zero_le _, rfl, rfl, rfl, rfl, rfl, HK3.out, HI3.out, Chg.refl _ _⟩
  case round =>
    obtain ⟨k, Ao, co, vo, An, cn, vn, orows, nrows, hk, rfl, hor, hnr, hol, hnl2, hK, hIr, hch⟩ := hrel
    have HK := hid hK
    have HIR := hid hIr
    have HCH := hid hch
    have HOR := hid hor
    have HNR := hid hnr
    have HOL := hid hol
    have HNL := hid hnl2
    have hxr := hch.box HX3.out HDX.out
    have x2 := block_cell hxr (i := 2) rfl
    have x4 := block_cell hxr (i := 4) rfl
    have hszr := hch.size
    have hwz : w.heap.size < wr.heap.size := by omega
    have hol3 : orows.length ≤ 10000 := by omega
    have hnl3 : nrows.length ≤ 10000 := by omega
    clear hK hIr hch hor hnr hol hnl2 hxr
    obtain ⟨wz, rfl⟩ : ∃ wz : World, wz = wr := ⟨_, rfl⟩
    by_cases hlt : k < (ordZ M).length
    · --<<
      obtain ⟨b1, o1, x, rfl, _, had, HX, hc⟩ := (HL3.out.keep (HCH.out.keeps (fun _ _ h => h))).get hlt
      obtain ⟨q, hq⟩ : ∃ q, (ord M).getD k 0 = q := ⟨_, rfl⟩
      have hlt2 : k < (ord M).length := by rw [← ordZ_len]; exact hlt
      have hxq : x = (q : Int) := by rw [← HX.out, ordZ_get M hlt2, hq]
      subst hxq
      have hqm : q ∈ ord M := by rw [← hq]; exact getD_mem _ _ hlt2
      have HQ := hid hq
      have HQM := hid hqm
      have hqs := ord_lt HOK.out q hqm
      have hki : (k : Int) < (ordZ M).length := by omega
      clear hq hqm
      go_upto_region 6 with (fail)
      go_cut [8, 9] (fun s t wc => ∃ p p' : Nat, p ≠ p' ∧ s = .slice (some ⟨p, 0, none⟩) M.ins M.ins ∧ t = .slice (some ⟨p', 0, none⟩) M.ins M.ins ∧ Below wz.heap.size wz wc ∧
        wc.ownsRow wz.heap.size 3 1 (.slice (some ⟨p, 0, none⟩) M.ins M.ins) M.ins (List.replicate M.ins (.int .i64 0)) ∧ wc.ownsRow wz.heap.size 3 1 (.slice (some ⟨p', 0, none⟩) M.ins M.ins) M.ins (List.replicate M.ins (.int .i64 0)))
      case first =>
        go_region
        · go_wp2_with fail
          go_meet
          have o1 := own_zrow wz wz.heap.size (.int .i64 0) M.ins 3 (Nat.le_refl _) (maxLen_le (by omega))
          have o2 := own_zrow (wz.alloc (zrow (.int .i64 0) M.ins 3)) wz.heap.size (.int .i64 0) M.ins 3 (by simp) (maxLen_le (by omega))
          rw [World.size_alloc] at o2
          exact ⟨_, _, by omega, rfl, rfl, by go_grown, (o1.alloc _), o2⟩
        · go_wp2_with fail
          go_meet
          have o1 := own_zrow wz wz.heap.size (.int .i64 0) M.ins 3 (Nat.le_refl _) (maxLen_le (by omega))
          have o2 := own_zrow (wz.alloc (zrow (.int .i64 0) M.ins 3)) wz.heap.size (.int .i64 0) M.ins 3 (by simp) (maxLen_le (by omega))
          rw [World.size_alloc] at o2
          exact ⟨_, _, by omega, rfl, rfl, by go_grown, o2, (o1.alloc _)⟩
      case rest =>
        obtain ⟨p, p', hpp, rfl, rfl, hbc, hop, hop'⟩ := hcut
        have hpl := hop.lt p rfl
        have hpl' := hop'.lt p' rfl
        have HKc := hid (HK.out.later hbc)
        have HCc := hid (HCH.out.trans (Chg.of_new hbc))
        have HIc := hid (HM.out.keep _ _ HIR.out (by omega) (hbc.mono (by omega)))
        have HOP := hid hop
        have HOP' := hid hop'
        have HBC := hid hbc
        have hsc := hbc.size
        clear hop hop' hbc x2 x4 hc had
        go_wp2_with fail
        go_loopw [38] (fun t wr => ∃ x : Nat, x ≤ M.ins ∧ t = .int .i64 (x : Int) ∧ wr.ownsRow wz.heap.size 3 1 (.slice (some ⟨p, 0, none⟩) M.ins M.ins) M.ins ((rowP (mvO M q) x M.ins).map (.int .i64)) ∧
          wr.ownsRow wz.heap.size 3 1 (.slice (some ⟨p', 0, none⟩) M.ins M.ins) M.ins ((rowP (nxF M k q) x M.ins).map (.int .i64)) ∧ I wr ∧ Chg (fun a => V a ∨ a = p ∨ a = p') wc wr) (fun t _ => M.ins - (intOf t).toNat)
        case atStart => exact ⟨0, Nat.zero_le _, rfl, by rw [rowP_zero]; exact HOP.out, by rw [rowP_zero]; exact HOP'.out, HIc.out, Chg.refl _ _⟩
        case round =>
          obtain ⟨x, hx, rfl, hr1, hr2, hIx, hcx⟩ := hrel
          have HR1' := hid hr1
          have HR2' := hid hr2
          have HIX := hid hIx
          have HCX := hid hcx
          have hszx := hcx.size
          have hCz : Chg (fun k => V k ∨ k = b ∨ W3.heap.size ≤ k) W3 wr := HCc.out.trans' hcx (fun a ha h => by
            rcases h with h | h | h
            · exact .inl h
            · exact .inr (.inr (by omega))
            · exact .inr (.inr (by omega)))
          have hbox := hCz.box HX3.out HDX.out
          have x2 := block_cell hbox (i := 2) rfl
          have x4 := block_cell hbox (i := 4) rfl
          have HCZ := hid hCz
          clear hr1 hr2 hIx hcx hCz hbox
          by_cases hxl : x < M.ins
          · have hxi : (x : Int) < M.ins := by omega
            go_wp2_with fail
            refine (HM.out.call _ q x HIX.out (by omega) hqs hxl).mono ?_
            rintro e w4 ⟨rfl, hI4, hc4⟩
            have hk4 : Keeps (fun a => w.heap.size ≤ a) wr w4 := hc4.keeps (fun a _ h => HV.out a h)
            have hr1 := own_agree (W := w4) HR1'.out (fun a e => hk4.block a (by have := (HR1'.out.lt a e.symm).1; omega) (HR1'.out.lt a e.symm).2)
            have hr2 := own_agree (W := w4) HR2'.out (fun a e => hk4.block a (by have := (HR2'.out.lt a e.symm).1; omega) (HR2'.out.lt a e.symm).2)
            have hC4 := HCZ.out.trans' hc4 (fun a _ h => .inl h)
            have HCC := hid (HCX.out.trans' hc4 (fun a _ h => .inl h))
            have hs4 := hc4.size
            have HI4 := hid hI4
            have y2 : w4.cell? ⟨p', x, none⟩ = some (.int .i64 ((rowP (nxF M k q) x M.ins).getD x 0)) := by rw [hr2.cellAt x (by omega)]; simp [rowP_len, hxl]
            have z2 : w4.frozen? ⟨p', x, none⟩ = false := hr2.frozenAt x
            have y1 : w4.cell? ⟨p, x, none⟩ = some (.int .i64 ((rowP (mvO M q) x M.ins).getD x 0)) := by rw [hr1.cellAt x (by omega)]; simp [rowP_len, hxl]
            have z1 : w4.frozen? ⟨p, x, none⟩ = false := hr1.frozenAt x
            have hN4 := HN3.out.keep (hC4.keeps (fun _ _ h => h))
            have HR14 := hid hr1
            have HR24 := hid hr2
            clear hI4 hc4 hk4 hr1 hr2 hC4 x2 x4
            rcases hmv : M.mv q x with _ | ⟨o, t⟩
            · obtain ⟨e1, e2⟩ := mvT_no hmv
              have hnx : nxF M k q x = (k : Int) := by unfold nxF; rw [hmv]
              rw [e1, e2]
              have HE1 := hid e1
              have HNX := hid hnx
              clear hN4 hmv e1 e2 hnx
              go_wp2_with fail
              go_roundw
              case rel =>
                have h5 := HR24.out.stored x (.int .i64 (k : Int))
                refine ⟨x + 1, by omega, by go_num, ?_, ?_, HM.out.keep _ _ HI4.out (by omega) ((Below.refl _ _).setCell (p := ⟨p', x, none⟩) (by show B ≤ p'; omega) _), HCC.out.set _ _ (fun _ => .inr (.inr rfl))⟩
                · rw [← rowP_skip _ HE1.out]; exact ownsRow_setCell_other HR14.out (by simp [Value.ownBlock]; exact hpp) _
                · rw [← rowP_set _ hxl, List.map_set, HNX.out]; exact h5.1
              case measure => simp [intOf]; omega
            · obtain ⟨e1, e2⟩ := mvT_yes hmv
              have ht := ord_to HOK.out HQM.out hxl hmv
              have hts := ord_lt HOK.out t ht
              have htl : t < (numsZ M).length := by rw [numsZ_len]; exact hts
              obtain ⟨b5, o5, z, rfl, _, had5, HZ, hc5⟩ := hN4.get htl
              have hz := HZ.out
              rw [numsZ_get M HOK.out ht] at hz
              have hnx : nxF M k q x = z := by unfold nxF; rw [hmv]; exact hz
              rw [e1, e2]
              have HE1 := hid e1
              have HNX := hid hnx
              have hti5 : (t : Int) < (numsZ M).length := by omega
              have hz0 : 0 ≤ z := by omega
              have hpx : p' ≠ p := fun e => hpp e.symm
              have hneA : (⟨p', x, none⟩ : Addr) ≠ ⟨p, x, none⟩ := fun e => by injection e with e; exact hpx e
              clear hN4 hmv e1 e2 hnx hz
              go_wp2_with fail
              go_roundw
              case rel =>
                have h5 := HR14.out.stored x (.int .i64 o)
                have h6 := ownsRow_setCell_other HR24.out (a := ⟨p, x, none⟩) (by simp [Value.ownBlock]; exact fun e => hpp e.symm) (.int .i64 o)
                have h7 := h6.stored x (.int .i64 z)
                refine ⟨x + 1, by omega, by go_num, ?_, ?_, HM.out.keep _ _ HI4.out (by omega) (((Below.refl _ _).setCell (p := ⟨p, x, none⟩) (by show B ≤ p; omega) _).setCell (p := ⟨p', x, none⟩) (by show B ≤ p'; omega) _), (HCC.out.set _ _ (fun _ => .inr (.inl rfl))).set _ _ (fun _ => .inr (.inr rfl))⟩
                · rw [← rowP_set _ hxl, List.map_set, HE1.out]; exact ownsRow_setCell_other h5.1 (by simp [Value.ownBlock]; exact hpp) _
                · rw [← rowP_set _ hxl, List.map_set, HNX.out]; exact h7.1
              case measure => simp [intOf]; omega
          · obtain ⟨X, hX⟩ : ∃ X, X = M.ins := ⟨_, rfl⟩
            have hxe : x = M.ins := by omega
            obtain ⟨r1, hr1e⟩ : ∃ r, r = bOut M q := ⟨_, rfl⟩
            obtain ⟨r2, hr2e⟩ : ∃ r, r = bNext M (ord M) k q := ⟨_, rfl⟩
            have hrl1 : r1.length = M.ins := by rw [hr1e]; simp [bOut]
            have hrl2 : r2.length = M.ins := by rw [hr2e]; simp [bNext]
            have HRE1 := hid hr1e
            have HRE2 := hid hr2e
            have hKx := HK.out.after (wr' := wr) ⟨by omega, fun a ha hal => (HCX.out.block a (by omega) (fun h => by
              rcases h with h | h | h
              · exact HV.out a (by rcases ha with ha | ha <;> omega) h
              · omega
              · omega)).trans (HBC.out.block a hal)⟩
            have HKX := hid hKx
            obtain ⟨-, -, -, d3, d4, db, f3, f4⟩ := hKx.cells
            have hw1 : rowP (mvO M q) x M.ins = r1 := by rw [hxe, hr1e, bOut_row]
            have hw2 : rowP (nxF M k q) x M.ins = r2 := by rw [hxe, hr2e, bNext_row]
            have HROW1 := hid (show wr.ownsRow wz.heap.size 3 1 (.slice (some ⟨p, 0, none⟩) M.ins M.ins) M.ins (r1.map (.int .i64)) by rw [← hw1]; exact HR1'.out)
            have HROW2 := hid (show wr.ownsRow wz.heap.size 3 1 (.slice (some ⟨p', 0, none⟩) M.ins M.ins) M.ins (r2.map (.int .i64)) by rw [← hw2]; exact HR2'.out)
            have HRL1 := hid hrl1
            have HRL2 := hid hrl2
            clear hKx hxe hr1e hr2e x2 x4 hw1 hw2 hrl1 hrl2
            go_upto_region 16 with (at_builtin; go_must (refine wpList_append_rd _ rfl (.tmp 68) (.tmp 70) 22 rfl W3.heap.size 34 i1 _ 1 24 Try.underlying22 htr hy0 hy1 hy2 rfl (by omega) (.slice Ao orows.length co) orows.length _ rfl (HKX.out.oo.alloc _) _ (some ⟨wr.heap.size, 0, none⟩) 1 1 _ rfl (Rd.cell1 (cell_new wr _ _ _ _ _ rfl rfl)) (by simp [Value.oneCell']) (by omega) (maxLen_le (by omega)) (by simp; omega) ?_); intro A5 c5 w5 hown5 hg5 hat5; have e5c := ((HKX.out.later (by go_grown)).grow (HKX.out.later (by go_grown)).oo hg5 0 undef).2.2.2; have e5d := block_cell e5c (i := 3) rfl; have e5f := block_free e5c (i := 3))
            refine wp_gen fun W6 hW6 => ?_
            obtain ⟨o6, ho6⟩ : ∃ l, l = orows ++ [r1] := ⟨_, rfl⟩
            have ho6l : o6.length = orows.length + 1 := by rw [ho6]; simp
            have hK6 : Mk W3.heap.size W6 b M.ins M.outs 0 o6 A5 c5 (vo ++ [.slice (some ⟨p, 0, none⟩) r1.length M.ins]) nrows An cn vn := by
              rw [hW6, ho6]
              refine (HKX.out.later (by go_grown)).outr (IB.own (n := M.ins) (B' := wz.heap.size) (by omega) (HROW1.out.alloc _) HRL1.out.symm (by omega)) hg5 (by rw [HRL1.out]; exact hown5) hat5
            have hch6 : Chg (fun a => W3.heap.size ≤ a ∨ a = b) wr W6 := by
              rw [hW6]
              exact (Chg.of_new (by go_grown)).trans ((HKX.out.later (by go_grown)).grow (HKX.out.later (by go_grown)).oo hg5 3 _).2.1
            have hrow6 : RdI W6 (IB W6 W3.heap.size) (some ⟨p', 0, none⟩) M.ins r2 := by
              have h1 : RdI wr (IB wr W3.heap.size) (some ⟨p', 0, none⟩) M.ins r2 := IB.own (n := M.ins) (B' := wz.heap.size) (by omega) HROW2.out HRL2.out.symm (by omega)
              have h2 := ((HKX.out.later (by go_grown)).grow (HKX.out.later (by go_grown)).oo hg5 3 (.slice A5 (orows.length + 1) c5)).2.2.1
              rw [hW6]
              exact IB.keep h2 (IB.keep ((Keeps.refl _ wr).alloc _) h1)
            have HK6 := hid hK6
            have HCH6 := hid hch6
            have HROW6 := hid hrow6
            have HO6 := hid ho6
            have HO6L := hid ho6l
            have hs6 := hch6.size
            obtain ⟨-, -, -, d3, d4, db, f3, f4⟩ := hK6.cells
            clear hW6 ho6 ho6l hK6 hch6 hrow6 hown5 hg5 hat5 e5c e5d e5f
            go_wp2_with (at_builtin; go_must (refine wpList_append_rd _ rfl (.tmp 74) (.tmp 76) 22 rfl W3.heap.size 34 i1 _ 1 24 Try.underlying22 htr hy0 hy1 hy2 rfl (by omega) (.slice An nrows.length cn) nrows.length _ rfl (HK6.out.on.alloc _) _ (some ⟨W6.heap.size, 0, none⟩) 1 1 _ rfl (Rd.cell1 (cell_new W6 _ _ _ _ _ rfl rfl)) (by simp [Value.oneCell']) (by omega) (maxLen_le (by omega)) (by simp; omega) ?_); intro A7 c7 w7 hown7 hg7 hat7; have e7c := ((HK6.out.later (by go_grown)).grow (HK6.out.later (by go_grown)).on hg7 0 undef).2.2.2; have e7d := block_cell e7c (i := 4) rfl; have e7f := block_free e7c (i := 4))
            have hl7 : (nrows ++ [r2]).length = nrows.length + 1 := by simp
            have hK7 := (HK6.out.later (by go_grown)).next (IB.keep ((Keeps.refl _ W6).alloc _) HROW6.out) hg7 (by rw [HRL2.out]; exact hown7) hat7
            have hch7 := (Chg.of_new (show Below W6.heap.size W6 _ by go_grown)).trans ((HK6.out.later (by go_grown)).grow (HK6.out.later (by go_grown)).on hg7 4 (.slice A7 (nrows.length + 1) c7)).2.1
            have HK7 := hid hK7
            have HCH7 := hid (HCH6.out.trans' hch7 (fun _ _ h => h))
            clear hK7 hch7 hown7 hg7 hat7 e7c e7d e7f hl7
            go_roundw
            case rel =>
              refine ⟨k + 1, A5, c5, _, A7, c7, _, o6, nrows ++ [r2], by omega, by go_num, ?_, ?_, ?_, ?_, HK7.out, HM.out.keep _ _ HIX.out (by omega) (HCH7.out.below (fun a h1 h2 => by omega) (by omega)), HCZ.out.trans' HCH7.out (fun a _ h => ?_)⟩
              · rw [HO6.out, bOuts_succ, ← HOR.out, HQ.out, HRE1.out]
              · rw [bNexts_succ, ← HNR.out, HQ.out, HRE2.out]
              · rw [HO6L.out, HOL.out]
              · rw [List.length_append, HNL.out]; rfl
              · rcases h with h | h
                · exact .inr (.inr h)
                · exact .inr (.inl h)
            case measure => simp [intOf]; omega
      -->>
    · obtain rfl : k = (ordZ M).length := by omega
      obtain ⟨d0, d1, d2, d3, d4, db, -, -⟩ := HK.out.cells
      have hrr := HCH.out.box HR3.out HDR.out
      have g0 := block_cell hrr (i := 0) rfl
      have g1 := block_cell hrr (i := 1) rfl
      have g2 := block_cell hrr (i := 2) rfl
      have g3 := block_cell hrr (i := 3) rfl
      have g4 := block_cell hrr (i := 4) rfl
      have q0 := block_free hrr (i := 0)
      have q1 := block_free hrr (i := 1)
      have q2 := block_free hrr (i := 2)
      have q3 := block_free hrr (i := 3)
      have q4 := block_free hrr (i := 4)
      have HRR := hid hrr
      clear hrr
      go_wp2_with fail
      refine bodyPost_gen fun W2 hW2 => ?_
      have hb : W2.heap[w.heap.size + 1]? = some (.cells #[.int .i64 M.ins, .int .i64 M.outs, .int .i64 0, .slice Ao orows.length co, .slice An nrows.length cn] 24 (0, 0)) := by
        rw [hW2]
        rw [set_block (set_block (set_block (set_block (set_block HRR.out _) _) _) _) _]
        rfl
      have p0 := block_cell hb (i := 0) rfl
      have p1 := block_cell hb (i := 1) rfl
      have p2 := block_cell hb (i := 2) rfl
      have p3 := block_cell hb (i := 3) rfl
      have p4 := block_cell hb (i := 4) rfl
      have hcw : Chg (fun a => a = w.heap.size + 1) wz W2 := by
        rw [hW2]
        (repeat (refine Chg.set ?_ _ _ (fun _ => rfl)))
        exact Chg.refl _ _
      have hK2 := HK.out.after (hcw.keeps (fun a _ h e => by omega))
      have hI2 := HM.out.keep _ _ HIR.out (by omega) (hcw.below (fun a h e => by omega) (by omega))
      have hc2 : Chg V w W2 := (HC3.out.trans' HCH.out (fun a ha h => by
        rcases h with h | h | h
        · exact h
        · omega
        · omega)).trans' hcw (fun a ha h => by omega)
      have hread := hK2.reads (by omega) (by omega)
      have hbu : build M = ⟨M.ins, M.outs, 0, orows, nrows⟩ := by
        rw [HOR.out, HNR.out, ordZ_len]; rfl
      have HRD := hid (hread.mono (E := fun a => w.heap.size ≤ a) (fun a h _ => by omega))
      have HI2 := hid hI2
      have HC2' := hid hc2
      have HBU := hid hbu
      clear hW2 hb hcw hK2 hI2 hc2 hread hbu g0 g1 g2 g3 g4 q0 q1 q2 q3 q4 d0 d1 d2 d3 d4
      exact bodyPost_ret (v := .agg #[.int .i64 M.ins, .int .i64 M.outs, .int .i64 0, .slice Ao orows.length co, .slice An nrows.length cn]) (by simp [results, Try.results33, go_sem, p0, p1, p2, p3, p4]) rfl ⟨_, rfl, HI2.out, HC2'.out, by rw [HBU.out]; exact HRD.out⟩
end Go.Proofs.Ytcmhginhfhiolaa
set_option linter.unusedVariables false
set_option linter.unusedSimpArgs false
namespace Go.Proofs.Ytcmhginhfhiolaa
open Go.RowKit
attribute [local go_sem] cell_alloc_old

/-- The record of a loop that was entered in the world w. -/
def recOf (w : World) (fn : FuncId) (a : Act) (ps : Array Tmp) (assign body : Code) (st : LoopState) : Loop := { state := st, pending := none, fn, tmps := a.tmps, params := ps, assign, body, defers := w.heap.size }
theorem wp_range {P : Program} {g : Operand} {ps : Array Tmp} {assign body : Code} {Q : Exit → Act → World → Prop} {a : Act} {w : World} {gf : Nat} {lb : Array Value} (hg : a.eval g = .func (.func gf) #[] lb)
    (eg : ∀ args w, (callFunc gf args).run P w = .ok (.enter gf args) w)
    (h : ∀ fn r, r = recOf w fn a ps assign body .ready → Calls P gf (#[.func (.yield (w.heap.size + 1)) #[] #[]] ++ lb) ((w.alloc (.deferred (some []))).alloc (.loop r)) fun e w3 =>
      (∃ v, e = .returned v) ∧ w3.heap[w.heap.size + 1]? = some (.loop r) ∧
      Q .normal { a with defers := { target := .collected w.heap.size, args := #[] } :: a.defers } (w3.putObj (w.heap.size + 1) (.loop { r with state := .exhausted }))) :
    (Code.rangeFunc g ps assign body).wp P Q a w := by
  refine (wpIn_wide (n := 3)).1 (wpIn_rangeFunc fun fn _ => ?_)
  obtain ⟨W1, hW1⟩ : ∃ W1, (w.alloc (.deferred (some []))).alloc (.loop (recOf w fn a ps assign body .ready)) = W1 := ⟨_, rfl⟩
  have hc := h fn _ rfl
  rw [hW1] at hc
  refine ⟨w.heap.size + 1, [{ target := .collected w.heap.size, args := #[] }], W1, { target := .fn (.func gf) lb, args := #[.func (.yield (w.heap.size + 1)) #[] #[]] }, W1, gf,
    #[.func (.yield (w.heap.size + 1)) #[] #[]] ++ lb, W1, ?_, ?_, ?_, ?_, ?_, ?_⟩
  · rw [← hW1]; exact run_enterLoop_outer _ _ _ _ _
  · simp only [resolve, hg]
    simp [go_sem]
  · exact fun f' _ => trivial
  · simp [invoke, go_sem, eg]
  · intro hd; simp [Fence.wide] at hd
  · refine callsIn_wide.2 (hc.mono ?_)
    rintro e w3 ⟨⟨v, rfl⟩, hl, hq⟩
    exact ⟨none, _, run_endLoop hl (by simp [recOf]), hq⟩

/-- What is asked of the rounds: J k ob W: k of them are over, ob is a block of the caller's own that it may change; it may change the blocks of Z, too. -/
structure RoundsOk (l : Nat) (M : Mac) (Z : Dom) (B1 : Nat) (J : Nat → Option Nat → World → Prop) : Prop where
  own : ∀ k ob W b, J k ob W → ob = some b → B1 ≤ b ∧ b < W.heap.size
  fix : ∀ b, Z b → b < B1
  keep : ∀ k ob W W', J k ob W → W.heap.size ≤ W'.heap.size → (∀ b, b < W.heap.size → Z b ∨ ob = some b → W'.heap[b]? = W.heap[b]?) → J k ob W'
  step : ∀ k ob W, J k ob W → k < (ord M).length → YieldAt Fence.wide 0 Try.prog l #[.int .i64 ((ord M).getD k 0 : Nat)] W fun e W' => e = .returned (.bool true) ∧
    ∃ ob', J (k + 1) ob' W' ∧ (ob' = ob ∨ ∃ b, ob' = some b ∧ W.heap.size ≤ b) ∧ Chg (fun b => Z b ∨ ob = some b) W W'

theorem bool_info : (Try.prog.info? 4).map (fun i => (i.zero, i.size, i.bytes)) = some (some (.bool false), 1, 1) := by kernel_rfl
def seenV (M : Mac) (l : List Nat) : List Value := (List.range M.size).map fun q => .bool (decide (q ∈ l))
theorem seenV_nil (M : Mac) : seenV M [] = List.replicate M.size (.bool false) := by
  unfold seenV
  apply List.ext_getElem
  · simp
  · intro i h1 h2; simp
theorem seenV_set (M : Mac) (l : List Nat) {q : Nat} (h : q < M.size) : (seenV M l).set q (.bool true) = seenV M (l ++ [q]) := by
  unfold seenV
  apply List.ext_getElem
  · simp
  · intro i h1 h2
    rw [List.getElem_set]
    simp only [List.getElem_map, List.getElem_range]
    split
    · rename_i e; subst e; simp
    · rename_i e
      have : (i ∈ l ++ [q]) ↔ i ∈ l := by simp; intro h'; omega
      simp [this]

/-- The walk of the search: l is its list, k rounds are over. -/
structure Sr (w : World) (M : Mac) (Z V : Dom) (J : Nat → Option Nat → World → Prop) (I : World → Prop) (sb k : Nat) (l : List Nat) (A : Option Addr) (c : Nat) (ob : Option Nat) (wr : World) : Prop where
  list : wr.ownsRow w.heap.size 3 1 (.slice A l.length c) l.length (l.map fun q : Nat => Value.int .i64 q)
  seen : wr.ownsRow w.heap.size 4 1 (.slice (some ⟨sb, 0, none⟩) M.size M.size) M.size (seenV M l)
  dis : ∀ b, ob = some b → (Value.slice A l.length c).ownBlock ≠ some b ∧ b ≠ sb
  j : J k ob wr
  i : I wr
  chg : Chg (fun b => V b ∨ Z b) w wr
section
variable {w wr w' : World} {M : Mac} {Z V : Dom} {J : Nat → Option Nat → World → Prop} {I : World → Prop} {sb k ln fn B : Nat} {caps : Array Value} {l : List Nat} {A : Option Addr} {c : Nat} {ob : Option Nat}
/-- A call of the moves' function. -/
theorem Sr.moved (h : Sr w M Z V J I sb k l A c ob wr) (hm : MvF fn caps M I V B) (hB : B ≤ w.heap.size) (hJ : RoundsOk ln M Z w.heap.size J) (hZ : ∀ b, Z b → B ≤ b) (hi : I w') (hc : Chg V wr w') : Sr w M Z V J I sb k l A c ob w' := by
  have key : ∀ b, b < wr.heap.size → B ≤ b → w'.heap[b]? = wr.heap[b]? := fun b hb h2 => hc.block b hb (fun hv => by have := hm.priv b hv; omega)
  refine ⟨own_agree h.list fun b e => key b (h.list.lt b e.symm).2 (by have := (h.list.lt b e.symm).1; omega), own_agree h.seen fun b e => key b (h.seen.lt b e.symm).2 (by have := (h.seen.lt b e.symm).1; omega), h.dis,
    hJ.keep _ _ _ _ h.j hc.size fun b hb h2 => key b hb ?_, hi, h.chg.trans' hc fun b _ hv => .inl hv⟩
  rcases h2 with h2 | h2
  · exact hZ b h2
  · have := (hJ.own _ _ _ b h.j h2).1; omega
/-- New blocks. -/
theorem Sr.later (h : Sr w M Z V J I sb k l A c ob wr) (hm : MvF fn caps M I V B) (hB : B ≤ w.heap.size) (hJ : RoundsOk ln M Z w.heap.size J) (hZ : ∀ b, Z b → B ≤ b) (hb : Below wr.heap.size wr w') : Sr w M Z V J I sb k l A c ob w' :=
  h.moved hm hB hJ hZ (hm.keep _ _ h.i (Nat.le_trans hB h.chg.size) (hb.mono (Nat.le_trans hB h.chg.size))) (Chg.of_new hb)
/-- A round. -/
theorem Sr.round (h : Sr w M Z V J I sb k l A c ob wr) (hm : MvF fn caps M I V B) (hB : B ≤ w.heap.size) (hJ : RoundsOk ln M Z w.heap.size J) (hZ : ∀ b, Z b → B ≤ b) {ob' : Option Nat} (hj : J (k + 1) ob' w')
    (ho : ob' = ob ∨ ∃ b, ob' = some b ∧ wr.heap.size ≤ b) (hc : Chg (fun b => Z b ∨ ob = some b) wr w') : Sr w M Z V J I sb (k + 1) l A c ob' w' := by
  have hw := h.chg.size
  have hl : ∀ b, some b = (Value.slice A l.length c).ownBlock → w'.heap[b]? = wr.heap[b]? := fun b e => hc.block b (h.list.lt b e.symm).2 fun h2 => by
    rcases h2 with h2 | h2
    · have := hJ.fix b h2; have := (h.list.lt b e.symm).1; omega
    · exact (h.dis b h2).1 e.symm
  have hs : ∀ b, some b = (Value.slice (some ⟨sb, 0, none⟩) M.size M.size).ownBlock → w'.heap[b]? = wr.heap[b]? := fun b e => hc.block b (h.seen.lt b e.symm).2 fun h2 => by
    rcases h2 with h2 | h2
    · have := hJ.fix b h2; have := (h.seen.lt b e.symm).1; omega
    · have h3 := (h.dis b h2).2
      simp [Value.ownBlock] at e
      exact h3 e
  refine ⟨own_agree h.list hl, own_agree h.seen hs, fun b e => ?_, hj, hm.keep _ _ h.i (by omega) (hc.below (fun b h1 h2 => ?_) (by omega)), h.chg.trans' hc fun b hb h2 => ?_⟩
  · rcases ho with ho | ⟨b', ho, hb'⟩
    · exact h.dis b (ho ▸ e)
    · rw [ho] at e
      injection e with e
      subst e
      exact ⟨fun e2 => by have := (h.list.lt _ e2).2; omega, fun e2 => by have := (h.seen.lt sb rfl).2; omega⟩
  · rcases h2 with h2 | h2
    · have := hZ b h2; omega
    · have := (hJ.own _ _ _ b h.j h2).1; omega
  · rcases h2 with h2 | h2
    · exact .inr h2
    · have := (hJ.own _ _ _ b h.j h2).1; omega
/-- A state that was not seen. -/
theorem Sr.push (h : Sr w M Z V J I sb k l A c ob wr) (hm : MvF fn caps M I V B) (hB : B ≤ w.heap.size) (hJ : RoundsOk ln M Z w.heap.size J) (hZ : ∀ b, Z b → B ≤ b) {t : Nat} (ht : t < M.size) {A5 : Option Addr} {c5 : Nat} {w5 : World}
    (hg : ((wr.setCell ⟨sb, t, none⟩ (.bool true)).alloc (.cells #[.int .i64 t] 3)).grownBy w5 (Value.slice A l.length c).ownBlock)
    (hown : w5.ownsRow w.heap.size 3 1 (.slice A5 (l.length + 1) c5) (l.length + 1) ((l.map fun q : Nat => Value.int .i64 q) ++ [.int .i64 t]))
    (hat : (Value.slice A5 (l.length + 1) c5).ownBlock = (Value.slice A l.length c).ownBlock ∨ (Value.slice A5 (l.length + 1) c5).ownBlock = some (wr.heap.size + 1)) : Sr w M Z V J I sb k (l ++ [t]) A5 c5 ob w5 := by
  have hw := h.chg.size
  have hsb := h.seen.lt sb rfl
  have hl : (l ++ [t]).length = l.length + 1 := by simp
  have key : ∀ b, b < wr.heap.size → b ≠ sb → some b ≠ (Value.slice A l.length c).ownBlock → w5.heap[b]? = wr.heap[b]? := fun b hb h1 h2 => by
    rw [hg.block b (by simp; omega) h2, Below.heap_alloc _ _ _ (by simpa using hb), Below.heap_setCell _ _ _ _ h1]
  have hsz : wr.heap.size ≤ w5.heap.size := by have := hg.size; simp at this; omega
  have hch : Chg (fun b => w.heap.size ≤ b) wr w5 := by
    refine (((Chg.refl _ wr).set _ _ (fun _ => hsb.1)).alloc _).grown hg fun b e _ => (h.list.lt b e).1
  have hne : (Value.slice A l.length c).ownBlock ≠ some sb := fun e => own_apart h.list h.seen (by decide) e.symm rfl
  refine ⟨by rw [hl, List.map_append]; exact hown, ?_, fun b e => ⟨?_, (h.dis b e).2⟩, hJ.keep _ _ _ _ h.j hsz fun b hb h2 => key b hb ?_ ?_, hm.keep _ _ h.i (by omega) (hch.below (fun b h1 h2 => by omega) (by omega)), h.chg.trans' hch fun b hb h2 => by omega⟩
  · have h1 := (h.seen.stored t (.bool true)).1
    rw [seenV_set M l ht] at h1
    refine own_agree (h1.alloc (.cells #[.int .i64 (t : Int)] 3)) fun b e => ?_
    have hb : b = sb := by simpa [Value.ownBlock] using e
    subst hb
    exact hg.block b (by simp; omega) fun e => hne e.symm
  · rw [hl]
    rcases hat with h1 | h1
    · rw [h1]; exact (h.dis b e).1
    · rw [h1]; intro e2; injection e2 with e2
      have := (hJ.own _ _ _ b h.j e).2; omega
  · rcases h2 with h2 | h2
    · have := hJ.fix b h2; omega
    · exact (h.dis b h2).2
  · rcases h2 with h2 | h2
    · intro e; have := hJ.fix b h2; have := (h.list.lt b e.symm).1; omega
    · exact fun e => (h.dis b h2).1 e.symm
end

set_option maxRecDepth 100000 in
set_option maxHeartbeats 8000000 in
theorem srch_any (ln : Nat) (J : Nat → Option Nat → World → Prop) (Z : Dom) (fn : Nat) (caps : Array Value) (M : Mac) (I : World → Prop) (V : Dom) (B : Nat) (hmv : MvF fn caps M I V B) (hM : M.Ok) (hs : M.size ≤ 10000) (hi : M.ins ≤ 64)
    (w : World) (hI : I w) (hB : B ≤ w.heap.size) (hJ : RoundsOk ln M Z w.heap.size J) (hZ : ∀ b, Z b → B ≤ b) (mb : Nat) (hmb : w.heap[mb]? = some (.cells #[.int .i64 M.size, .int .i64 M.start, .int .i64 M.ins, .int .i64 M.outs, .func (.func fn) #[] caps] 50 (0, 0)))
    (hmV : ¬ V mb) (hmZ : ¬ Z mb) (h0 : J 0 none w) :
    Calls Try.prog 72 #[.func (.yield ln) #[] #[], .pointer (some ⟨mb, 0, none⟩)] w fun e w' => (∃ v, e = .returned v) ∧ ∃ ob', J (ord M).length ob' w' ∧ I w' ∧ Chg (fun b => V b ∨ Z b) w w' := by
  obtain ⟨i0, hti, hz0, hz1, hz2⟩ := info_parts int_info
  obtain ⟨i1, htb, hy0, hy1, hy2⟩ := info_parts bool_info
  have HM := hid hmv
  have HOK := hid hM
  have HI := hid hI
  have HJ := hid hJ
  have HZ := hid hZ
  have HMB := hid hmb
  have HMV := hid (show ¬ (V mb ∨ Z mb) from fun h => h.elim hmV hmZ)
  have H0 := hid h0
  have hen := hmv.enter
  have x0 := block_cell hmb (i := 0) rfl
  have x1 := block_cell hmb (i := 1) rfl
  have hml := lt_of_block hmb
  have hmk := run_make_zrow (P := Try.prog) 41 4 i1 (.bool false) 1 Try.underlying41 htb hy0 hy1 hy2 rfl .i64 .i64 M.size (by omega) (by omega)
  have hst := hM.st
  have hsti : (M.start : Int) < M.size := by omega
  clear hmv hM hI hJ hZ hmb hmV hmZ h0
  go_enter Try.func72, Try.ntmps72
  go_upto_region 1 with (fail)
  refine wp_gen fun W1 hW1 => ?_
  have hb1 : Below w.heap.size w W1 := by rw [hW1]; go_grown
  have hs1 : W1.ownsRow w.heap.size 4 1 (.slice (some ⟨w.heap.size, 0, none⟩) M.size M.size) M.size (seenV M []) := by
    rw [hW1, seenV_nil]; exact own_zrow w _ _ _ _ (Nat.le_refl _) (maxLen_le (by omega))
  obtain ⟨sb, hsb⟩ : ∃ sb, sb = w.heap.size := ⟨_, rfl⟩
  rw [← hsb] at hs1 ⊢
  have HS1 := hid hs1
  have HB1 := hid hb1
  have x1 := block_cell ((hb1.block _ hml).trans HMB.out) (i := 1) rfl
  have hsv : (seenV M []).length = M.size := by simp [seenV]
  have y1 : W1.cell? ⟨sb, M.start, none⟩ = some (.bool false) := by rw [hs1.cellAt _ (by omega)]; simp [seenV, hst]
  have y2 : W1.frozen? ⟨sb, M.start, none⟩ = false := hs1.frozenAt _
  have hsbw : w.heap.size ≤ sb := by omega
  have HSB := hid hsb
  clear hs1 hb1 hW1 hsv x0 hsb
  go_upto_region 3 with (fail)
  refine wp_gen fun W3 hW3 => ?_
  obtain ⟨lb, hlb⟩ : ∃ lb, lb = W1.heap.size := ⟨_, rfl⟩
  rw [← hlb]
  have hwlb : w.heap.size < lb := by have := World.block_lt_of_cell? W1 _ y1; have : sb < W1.heap.size := this; omega
  have hS3 : Sr w M Z V J I sb 0 [M.start] (some ⟨lb, 0, none⟩) 1 none W3 := by
    have hbw : Below w.heap.size w W3 := by rw [hW3]; exact (HB1.out.setCell (p := ⟨sb, M.start, none⟩) (by show w.heap.size ≤ sb; omega) _).alloc (by simp; omega) _
    have hnew : W3.heap[lb]? = some (.cells #[.int .i64 (M.start : Int)] 3 (0, 0)) := by
      rw [hW3, hlb]
      have := heap_alloc_new (W1.setCell ⟨sb, M.start, none⟩ (.bool true)) (.cells #[.int .i64 (M.start : Int)] 3)
      rwa [World.size_setCell] at this
    refine ⟨⟨rfl, .inr ⟨lb, 1, _, rfl, by omega, hnew, by simp, by decide, by simp, by simp⟩⟩, ?_, (fun b e => by cases e), HJ.out.keep _ _ _ _ H0.out hbw.size fun b hb _ => hbw.block b hb, HM.out.keep _ _ HI.out hB (hbw.mono hB), Chg.of_new hbw⟩
    have h1 := (HS1.out.stored M.start (.bool true)).1
    rw [seenV_set M [] hst] at h1
    rw [hW3, ← HSB.out]
    exact h1.alloc _
  have HS3 := hid hS3
  clear hS3 hW3 x1 y1 y2 hlb
  go_wp2_with fail
  go_loopw [4, 5] (fun ls t wr => ∃ (k : Nat) (l : List Nat) (A : Option Addr) (c : Nat) (ob : Option Nat), k ≤ l.length ∧ l = ordAt M k ∧ t = .int .i64 (k : Int) ∧ ls = .slice A l.length c ∧
    Sr w M Z V J I sb k l A c ob wr) (fun _ t _ => M.size + 1 - (intOf t).toNat)
  case atStart => exact ⟨0, [M.start], _, _, none, by simp, rfl, rfl, rfl, HS3.out⟩
  case round =>
    clear HS3
    obtain ⟨k, l, A, c, ob, hk, hl, rfl, rfl, hS⟩ := hrel
    have HS := hid hS
    have HL := hid hl
    have hlen : l.length ≤ M.size := by rw [hl]; exact ordAt_len HOK.out k
    have hmr := hS.chg.box HMB.out HMV.out
    have hbx := HMB.out
    have hmlr : mb < wr.heap.size := lt_of_block hmr
    have x2 := block_cell hmr (i := 2) rfl
    have x4 := block_cell hmr (i := 4) rfl
    clear hS hl hmr hbx
    by_cases hlt : k < l.length
    · obtain ⟨q, hq⟩ : ∃ q, l.getD k 0 = q := ⟨_, rfl⟩
      have hcq : (l.map fun q : Nat => Value.int .i64 q)[k]? = some (.int .i64 (q : Int)) := by
        rw [← hq]; simp [List.getD, hlt]
      have hA : ∃ g, A = some ⟨g, 0, none⟩ := by
        rcases HS.out.list.2 with ⟨hv, h0⟩ | ⟨g, cap, cur, hv, _⟩
        · exact absurd h0 (by omega)
        · injection hv with hv; exact ⟨g, hv⟩
      obtain ⟨g, rfl⟩ := hA
      have hc : wr.cell? ⟨g, k, none⟩ = some (.int .i64 (q : Int)) := (HS.out.list.cellAt k (by simpa using hlt)).trans hcq
      have hqe : (ord M).getD k 0 = q := by rw [pre_getD (ordAt_sub HOK.out k) 0 (by rw [← HL.out]; exact hlt), ← HL.out]; exact hq
      have hko : k < (ord M).length := by have := (ordAt_sub HOK.out k).length_le; rw [← HL.out] at this; omega
      obtain ⟨yf, yt, ya, yb, hy, hR⟩ := HJ.out.step k ob wr HS.out.j hko
      rw [hqe] at hy
      have hki : (k : Int) < l.length := by omega
      go_upto_region 6 with (fail)
      refine (wpIn_wide (n := 1)).1 ?_
      gi_wp2
      refine hR.mono ?_
      rintro e w4 ⟨rfl, ob', hJ4, ho4, hc4⟩
      have hS4 := HS.out.round HM.out hB HJ.out HZ.out hJ4 ho4 hc4
      have hqM : q < M.size := by rw [← hq]; exact ordAt_lt HOK.out k _ (by rw [← HL.out]; exact getD_mem l 0 hlt)
      have hqo : q ∈ ord M := by rw [← hqe]; exact getD_mem _ 0 hko
      have hmr4 := hS4.chg.box HMB.out HMV.out
      have x2 := block_cell hmr4 (i := 2) rfl
      have HS4 := hid hS4
      have HQ := hid hq
      have HQO := hid hqo
      have HQE := hid hqe
      have hk1 : k + 1 ≤ M.size := by omega
      clear hS4 hJ4 ho4 hc4 hmr4 hq hqo hqe hcq hR x4 hc
      gi_wp2
      go_wp2_with fail
      obtain ⟨wz, rfl⟩ : ∃ wz : World, wz = w4 := ⟨_, rfl⟩
      obtain ⟨cz, rfl⟩ : ∃ cz : Nat, cz = c := ⟨_, rfl⟩
      go_loopw [4, 34] (fun ls t wr => ∃ (x : Nat) (lx : List Nat) (A : Option Addr) (c : Nat), x ≤ M.ins ∧ lx = rowTo M q l x ∧ t = .int .i64 (x : Int) ∧ ls = .slice A lx.length c ∧ Sr w M Z V J I sb (k + 1) lx A c ob' wr) (fun _ t _ => M.ins - (intOf t).toNat)
      case atStart => exact ⟨0, l, _, _, Nat.zero_le _, rfl, rfl, rfl, HS4.out⟩
      case round =>
        clear HS4
        obtain ⟨x, lx, A, c, hx, hlx, rfl, rfl, hS⟩ := hrel
        have HS := hid hS
        have HLX := hid hlx
        have hmr := hS.chg.box HMB.out HMV.out
        have hmlr : mb < wr.heap.size := lt_of_block hmr
        have x2 := block_cell hmr (i := 2) rfl
        have x4 := block_cell hmr (i := 4) rfl
        have hpre := rowTo_pre (M := M) q l x
        rw [← hlx] at hpre
        have hlxl : l.length ≤ lx.length := hpre.length_le
        have hgx : lx.getD k 0 = q := by rw [pre_getD hpre 0 hlt]; exact HQ.out
        have hlxs : lx.length ≤ M.size := by
          have h1 : lx <+: ordAt M (k + 1) := by
            rw [hlx, ordAt, ← HL.out, if_pos hlt, HQ.out]
            exact rowTo_mono q l hx
          have := h1.length_le
          have := ordAt_len HOK.out (k + 1)
          omega
        clear hS hlx hmr hpre
        by_cases hxl : x < M.ins
        · have hxi : (x : Int) < M.ins := by omega
          have hkx : k < lx.length := by omega
          have hcq : (lx.map fun q : Nat => Value.int .i64 q)[k]? = some (.int .i64 (q : Int)) := by
            rw [← hgx]; simp [List.getD, hkx]
          have hA : ∃ g, A = some ⟨g, 0, none⟩ := by
            rcases HS.out.list.2 with ⟨hv, h0⟩ | ⟨g, cap, cur, hv, _⟩
            · exact absurd h0 (by omega)
            · injection hv with hv; exact ⟨g, hv⟩
          obtain ⟨g', rfl⟩ := hA
          have hc : wr.cell? ⟨g', k, none⟩ = some (.int .i64 (q : Int)) := (HS.out.list.cellAt k (by simpa using hkx)).trans hcq
          have hkxi : (k : Int) < lx.length := by omega
          have HGX := hid hgx
          have HCQ := hid hcq
          clear hcq hgx
          go_wp2_with fail
          have HID := hid (HM.out.keep _ _ HS.out.i (Nat.le_trans hB HS.out.chg.size) ((Drawn.refl wr).drew.below B))
          go_region_held3 (fun w' => w'.cell? ⟨mb, 4, none⟩ = some (.func (.func fn) #[] caps) ∧ w'.cell? ⟨g', k, none⟩ = some (.int .i64 (q : Int)))
            (first
              | go_keep
              | exact ⟨block_cell (HS5.out.chg.box HMB.out HMV.out) (i := 4) rfl, (HS5.out.list.cellAt k (by simpa using hkx)).trans HCQ.out⟩)
            ((refine (HM.out.call _ q x HID.out (Nat.le_trans hB HS.out.chg.size) hqM hxl).mono ?_
              rintro e w5 ⟨rfl, hI5, hc5⟩
              have HS5 := hid (HS.out.moved HM.out hB HJ.out HZ.out hI5 (((Chg.refl V wr).drew).trans hc5))
              clear hI5 hc5))
          all_goals (first | done | skip)
          clear x2 x4 hc
          rcases hmv : M.mv q x with _ | ⟨o, t⟩
          · obtain ⟨e1, e2⟩ := mvT_no hmv
            have hrw : rowTo M q l (x + 1) = lx := by rw [rowTo, hmv, ← HLX.out]; rfl
            have HRW := hid hrw
            rw [e1, e2]
            clear e1 e2 hmv hrw
            go_wp2_with fail
            go_roundw
            case rel => exact ⟨x + 1, lx, _, c, by omega, HRW.out.symm, by go_num, rfl, HS5.out⟩
            case measure => simp [intOf]; omega
          · obtain ⟨e1, e2⟩ := mvT_yes hmv
            have hts := HOK.out.tgt q x o t hqM hxl hmv
            have htsi : (t : Int) < M.size := by omega
            rw [e1, e2]
            have y0 : w5.cell? ⟨sb, t, none⟩ = some (.bool (decide (t ∈ lx))) := by
              rw [HS5.out.seen.cellAt t (by omega)]; simp [seenV, hts]
            have y1 : w5.frozen? ⟨sb, t, none⟩ = false := HS5.out.seen.frozenAt t
            have hsl := HS5.out.seen.lt sb rfl
            by_cases hin : t ∈ lx
            · have hrw : rowTo M q l (x + 1) = lx := by rw [rowTo, hmv, ← HLX.out]; simp [pushM, hin]
              have HRW := hid hrw
              have hd : decide (t ∈ lx) = true := decide_eq_true hin
              rw [hd] at y0
              clear e1 e2 hmv hrw hd hin
              go_wp2_with fail
              go_roundw
              case rel => exact ⟨x + 1, lx, _, c, by omega, HRW.out.symm, by go_num, rfl, HS5.out⟩
              case measure => simp [intOf]; omega
            · have hrw : rowTo M q l (x + 1) = lx ++ [t] := by rw [rowTo, hmv, ← HLX.out]; simp [pushM, hin]
              have HRW := hid hrw
              have hd : decide (t ∈ lx) = false := decide_eq_false hin
              rw [hd] at y0
              have hls : lx.length + 1 ≤ M.size := by
                have h1 : (rowTo M q l (x + 1)) <+: ordAt M (k + 1) := by
                  rw [ordAt, ← HL.out, if_pos hlt, HQ.out]
                  exact rowTo_mono q l (by omega)
                rw [hrw] at h1
                have h2 := h1.length_le
                have := ordAt_len HOK.out (k + 1)
                simp at h2; omega
              clear e1 e2 hmv hrw hd hin
              go_wp2_with (at_builtin; go_must (refine wpList_append_rd _ rfl (.tmp 60) (.tmp 62) 34 rfl w.heap.size 3 i0 _ 1 8 Try.underlying34 hti hz0 hz1 hz2 rfl (by omega) (.slice (some ⟨g', 0, none⟩) lx.length c) lx.length _ rfl (((ownsRow_setCell_other HS5.out.list (own_apart HS5.out.list HS5.out.seen (by decide) rfl |> fun h e => h (by simpa [Value.ownBlock] using e)) _).alloc _)) _ (some ⟨w5.heap.size, 0, none⟩) 1 1 _ rfl (Rd.cell1 (cell_new _ _ _ _ _ _ (by simp) rfl)) (by simp [Value.oneCell']) (by omega) (maxLen_le (by omega)) (by simp; omega) ?_); intro A5 c6 w6 hown6 hg6 hat6)
              have hS6 := HS5.out.push HM.out hB HJ.out HZ.out hts hg6 hown6 (by simpa using hat6)
              have HS6 := hid hS6
              clear hS6 hown6 hg6 hat6
              go_roundw
              case rel => exact ⟨x + 1, lx ++ [t], A5, c6, by omega, HRW.out.symm, by go_num, by simp, HS6.out⟩
              case measure => simp [intOf]; omega
        · obtain rfl : x = M.ins := by omega
          have hfin : lx = ordAt M (k + 1) := by rw [HLX.out, ordAt, ← HL.out, if_pos hlt, HQ.out]
          have HFIN := hid hfin
          clear hfin x2 x4
          go_wp2_with fail
          go_roundw
          case rel => exact ⟨k + 1, lx, A, c, ob', by omega, HFIN.out, by go_num, rfl, HS.out⟩
          case measure => simp [intOf]; omega
    · obtain rfl : k = l.length := by omega
      have hfin : ordAt M l.length = ord M := ord_done HOK.out (by rw [← HL.out]; exact Nat.le_refl _)
      have hfl : l.length = (ord M).length := by rw [← hfin, ← HL.out]
      have HFL := hid hfl
      clear hfin hfl x2 x4
      go_wp2_with fail
      go_end0
      exact ⟨⟨_, rfl⟩, ob, by rw [← HFL.out]; exact HS.out.j, HS.out.i, HS.out.chg⟩
end Go.Proofs.Ytcmhginhfhiolaa
set_option linter.unusedVariables false
set_option linter.unusedSimpArgs false
namespace Go.Proofs.Ytcmhginhfhiolaa
open Go.RowKit Go.Shelf
attribute [local go_sem] cell_alloc_old Oper.semAt_some

theorem alloc_get (w : World) (o : Obj) (i : Nat) : (w.alloc o).heap[i]? = if i = w.heap.size then some o else w.heap[i]? := by
  show (w.heap.push o)[i]? = _
  rw [Array.getElem?_push]
theorem at_new (w : World) (o : Obj) (i : Nat) (h : i = w.heap.size) : (w.alloc o).heap[i]? = some o := by rw [alloc_get, if_pos h]
theorem at_old (w : World) (o : Obj) (i : Nat) (h : i < w.heap.size) : (w.alloc o).heap[i]? = w.heap[i]? := by rw [alloc_get, if_neg (by omega)]

set_option maxHeartbeats 1000000 in
theorem search_any (fn : Nat) (caps : Array Value) (M : Mac) (w : World) :
    Calls Try.prog 64 #[machV fn caps M] w fun e w' => e = .returned (.func (.func 72) #[] #[.pointer (some ⟨w.heap.size, 0, none⟩)]) ∧
      w' = w.alloc (.cells #[.int .i64 M.size, .int .i64 M.start, .int .i64 M.ins, .int .i64 M.outs, .func (.func fn) #[] caps] 50) := by
  have hmf : ∀ (fn : Fn) (first cap : Array Value) (w : World), (Instr.makeFunc fn first cap).run Try.prog w = .ok (.func fn first cap) w := fun _ _ _ _ => rfl
  unfold machV
  go_enter Try.func64, Try.ntmps64
  go_wp2_with fail
  go_ret
  exact ⟨rfl, rfl⟩

def numsTo (M : Mac) (k : Nat) : List Int := (List.range M.size).map fun q => if q ∈ (ord M).take k then ((ord M).idxOf q : Int) else 0
theorem numsTo_zero (M : Mac) : (numsTo M 0).map (Value.int .i64) = List.replicate M.size (.int .i64 0) := by
  unfold numsTo
  rw [List.map_map]
  apply List.ext_getElem
  · simp
  · intro i h1 h2; simp
theorem numsTo_all (M : Mac) : numsTo M (ord M).length = numsZ M := by unfold numsTo numsZ; rw [List.take_length]
theorem numsTo_len (M : Mac) (k : Nat) : (numsTo M k).length = M.size := by simp [numsTo]
theorem numsTo_succ (M : Mac) {k : Nat} (h : k < (ord M).length) : numsTo M (k + 1) = (numsTo M k).set ((ord M).getD k 0) (k : Int) := by
  have hi := idxOf_getD (ord_nodup (M := M)) h
  unfold numsTo
  apply List.ext_getElem
  · simp
  · intro i h1 h2
    rw [List.getElem_set]
    simp only [List.getElem_map, List.getElem_range]
    rw [take_succ_getD (ord M) 0 h]
    by_cases e : (ord M).getD k 0 = i
    · subst e
      rw [if_pos (by simp), if_pos rfl, hi]
    · rw [if_neg e]
      have : (i ∈ (ord M).take k ++ [(ord M).getD k 0]) ↔ i ∈ (ord M).take k := by
        rw [List.mem_append, List.mem_singleton]
        exact ⟨fun h => h.elim id (fun x => absurd x.symm e), .inl⟩
      by_cases hm : i ∈ (ord M).take k
      · rw [if_pos hm, if_pos (this.2 hm)]
      · rw [if_neg hm, if_neg (fun x => hm (this.1 x))]

/-- What the rounds of order keep. -/
structure Jr (M : Mac) (base B1 p1 p2 p3 D l : Nat) (r : Loop) (k : Nat) (ob : Option Nat) (W : World) : Prop where
  ex : ∃ A c, W.heap[p1]? = some (.cells #[.slice A k c] 34 (0, 0)) ∧ W.ownsRow B1 3 1 (.slice A k c) k (((ordZ M).take k).map (.int .i64)) ∧ ob = (Value.slice A k c).ownBlock
  num : W.heap[p3]? = some (.cells #[.slice (some ⟨p2, 0, none⟩) M.size M.size] 34 (0, 0))
  arr : W.ownsRow base 3 1 (.slice (some ⟨p2, 0, none⟩) M.size M.size) M.size ((numsTo M k).map (.int .i64))
  lp : W.heap[l]? = some (.loop r)
  dfd : W.heap[D]? = some (.deferred (some []))
def Zr (p1 p2 p3 D l : Nat) : Dom := fun b => b = p1 ∨ b = p2 ∨ b = p3 ∨ b = D ∨ b = l
theorem Jr.keep {M : Mac} {base B1 p1 p2 p3 D l : Nat} {r : Loop} {k : Nat} {ob : Option Nat} {W W' : World} (h : Jr M base B1 p1 p2 p3 D l r k ob W) (hb : ∀ b, b < W.heap.size → Zr p1 p2 p3 D l b ∨ ob = some b → W'.heap[b]? = W.heap[b]?) : Jr M base B1 p1 p2 p3 D l r k ob W' := by
  obtain ⟨A, c, h1, h2, h3⟩ := h.ex
  refine ⟨⟨A, c, (hb _ (lt_of_block h1) (.inl (.inl rfl))).trans h1, own_agree h2 fun b e => hb b (h2.lt b e.symm).2 (.inr (h3.trans e.symm)), h3⟩, (hb _ (lt_of_block h.num) (.inl (.inr (.inr (.inl rfl))))).trans h.num, own_agree h.arr fun b e => hb b (h.arr.lt b e.symm).2 (.inl (.inr (.inl ?_))),
    (hb _ (lt_of_block h.lp) (.inl (.inr (.inr (.inr (.inr rfl)))))).trans h.lp, (hb _ (lt_of_block h.dfd) (.inl (.inr (.inr (.inr (.inl rfl)))))).trans h.dfd⟩
  simpa [Value.ownBlock] using e

theorem wpListIn_append_rd {F : Fence} {nF : Nat} {P : Program} (w : World) {ops : Array Oper} {rest : List Oper} {o : Oper} {a : Act} {Q : Exit → Act → World → Prop} (hgd : o.guard = none) (s x : Operand) (t : TypeId)
    (ho : o.op = .call { callee := .builtin .append, args := #[s, x], argTypes := #[t, t] })
    (base : Nat) (e : TypeId) (i : TypeInfo) (z : Value) (size bytes : Nat) (ht : P.underlying t = some (.slice e)) (hi : P.info? e = some i) (hz : i.zero = some z)
    (hsize : i.size = size) (hby : i.bytes = bytes) (hzs : z.cells.size = size) (hsz : 0 < size)
    (v : Value) (n : Nat) (xs : List Value) (hs : a.eval s = v) (hown : w.ownsRow base e size v n xs)
    (D : Dom) (A : Option Addr) (m c : Nat) (news : List Value) (hx : a.eval x = .slice A m c) (hr : Rd w D size A m c news) (h1 : ∀ u ∈ news, u.oneCell' = true)
    (hbytes : (n + m) * bytes ≤ 140737488355328) (h63 : n + m ≤ maxLen) (hbase : base ≤ w.heap.size)
    (h : ∀ A' c' w', w'.ownsRow base e size (.slice A' (n + m) c') (n + m) (xs ++ news) → w.grownBy w' v.ownBlock → ((Value.slice A' (n + m) c').ownBlock = v.ownBlock ∨ (Value.slice A' (n + m) c').ownBlock = some w.heap.size) →
      wpListIn F nF P ops Q rest (a.put o.dst (.slice A' (n + m) c')) w') : wpListIn F nF P ops Q (o :: rest) a w := by
  refine wpListIn_plain hgd fun K hK => ?_
  obtain ⟨A', c', w', hrun, h2, h3, h4⟩ := run_append_rd (P := P) w base t o.type e i z size bytes ht hi hz hsize hby hzs hsz v n xs hown D A m c news hr h1 hbytes h63 hbase
  unfold Oper.wpIn
  refine ⟨by simp [Oper.about, ho, resolve, Target.leads, Sem.run_pure], ?_⟩
  rw [Oper.semAt_plain F _ _ (by rw [ho]; intro c hc'; cases hc')]
  simp [execOp, ho, resolve, invoke, builtin, hs, hx, hrun, Result.andThen]
  exact hK _ _ (h A' c' w' h2 h3 h4)
theorem Jr.old {A : Option Addr} {c q B1 p1 p2 k : Nat} {w6 W : World} (h1 : W.heap[p1]? = some (.cells #[.slice A k c] 34 (0, 0))) (hle : ∀ b, some b = (Value.slice A k c).ownBlock → B1 ≤ b) (d12 : p1 ≠ p2) (b1 : p1 < B1)
    (hg : ((W.setCell ⟨p2, q, none⟩ (.int .i64 (k : Int))).alloc (.cells #[.int .i64 (q : Int)] 3)).grownBy w6 (Value.slice A k c).ownBlock) : w6.heap[p1]? = some (.cells #[.slice A k c] 34 (0, 0)) := by
  rw [hg.block p1 (by have := lt_of_block h1; simp; omega) (fun e => by have := hle p1 e; omega), Below.heap_alloc _ _ _ (by simpa using lt_of_block h1), Below.heap_setCell _ _ _ _ d12]
  exact h1
theorem wpIn_gen {F : Fence} {n : Nat} {P : Program} {c : Code} {Q : Exit → Act → World → Prop} {a : Act} {w : World} (h : ∀ W, W = w → c.wpIn F n P Q a W) : c.wpIn F n P Q a w := h w rfl
section
variable {M : Mac} {base B1 p1 p2 p3 D l : Nat} {r r' : Loop} {k : Nat} {ob : Option Nat} {W W' : World}
theorem Jr.put (h : Jr M base B1 p1 p2 p3 D l r' k ob W) (h1 : p1 ≠ l) (h2 : p2 ≠ l) (h3 : p3 ≠ l) (h4 : D ≠ l) (h5 : l < B1) (r : Loop) : Jr M base B1 p1 p2 p3 D l r k ob (W.putObj l (.loop r)) := by
  obtain ⟨A, c, e1, e2, e3⟩ := h.ex
  refine ⟨⟨A, c, (World.putObj_heap_other h1).trans e1, own_agree e2 fun b e => World.putObj_heap_other (fun x => ?_), e3⟩, (World.putObj_heap_other h3).trans h.num, own_agree h.arr fun b e => World.putObj_heap_other (fun x => ?_), World.putObj_heap_same (lt_of_block h.lp), (World.putObj_heap_other h4).trans h.dfd⟩
  · have := (e2.lt b e.symm).1; omega
  · have : b = p2 := by simpa [Value.ownBlock] using e
    omega
theorem Jr.next {A A6 : Option Addr} {c c6 q : Nat} {w6 : World} (h : Jr M base B1 p1 p2 p3 D l r k ob W) (hk : k < (ord M).length) (hq : (ord M).getD k 0 = q) (h1 : W.heap[p1]? = some (.cells #[.slice A k c] 34 (0, 0)))
    (h2 : W.ownsRow B1 3 1 (.slice A k c) k (((ordZ M).take k).map (.int .i64))) (h3 : ob = (Value.slice A k c).ownBlock)
    (d12 : p1 ≠ p2) (d13 : p1 ≠ p3) (d1D : p1 ≠ D) (d1l : p1 ≠ l) (d23 : p2 ≠ p3) (d2D : p2 ≠ D) (d2l : p2 ≠ l) (b1 : p1 < B1) (b2 : p2 < B1) (b3 : p3 < B1) (bD : D < B1) (bl : l < B1)
    (hg : ((W.setCell ⟨p2, q, none⟩ (.int .i64 (k : Int))).alloc (.cells #[.int .i64 (q : Int)] 3)).grownBy w6 (Value.slice A k c).ownBlock)
    (hown : w6.ownsRow B1 3 1 (.slice A6 (k + 1) c6) (k + 1) (((ordZ M).take k).map (.int .i64) ++ [.int .i64 (q : Int)]))
    (hat : (Value.slice A6 (k + 1) c6).ownBlock = (Value.slice A k c).ownBlock ∨ (Value.slice A6 (k + 1) c6).ownBlock = some (W.heap.size + 1)) :
    Jr M base B1 p1 p2 p3 D l r (k + 1) (Value.slice A6 (k + 1) c6).ownBlock (w6.setCell ⟨p1, 0, none⟩ (.slice A6 (k + 1) c6)) ∧
      ((Value.slice A6 (k + 1) c6).ownBlock = ob ∨ ∃ b, (Value.slice A6 (k + 1) c6).ownBlock = some b ∧ W.heap.size ≤ b) ∧ Chg (fun b => Zr p1 p2 p3 D l b ∨ ob = some b) W (w6.setCell ⟨p1, 0, none⟩ (.slice A6 (k + 1) c6)) := by
  have hle : ∀ b, some b = (Value.slice A k c).ownBlock → B1 ≤ b := fun b e => (h2.lt b e.symm).1
  have key : ∀ b, b < W.heap.size → b < B1 → b ≠ p1 → b ≠ p2 → (w6.setCell ⟨p1, 0, none⟩ (.slice A6 (k + 1) c6)).heap[b]? = W.heap[b]? := fun b hb hB e1 e2 => by
    rw [Below.heap_setCell _ _ _ _ e1, hg.block b (by simp; omega) (fun e => by have := hle b e; omega), Below.heap_alloc _ _ _ (by simpa using hb), Below.heap_setCell _ _ _ _ e2]
  have hp1 : w6.heap[p1]? = some (.cells #[.slice A k c] 34 (0, 0)) := by
    rw [hg.block p1 (by have := lt_of_block h1; simp; omega) (fun e => by have := hle p1 e; omega), Below.heap_alloc _ _ _ (by simpa using lt_of_block h1), Below.heap_setCell _ _ _ _ d12]
    exact h1
  have hqM : ((ordZ M).take (k + 1)).map (Value.int .i64) = ((ordZ M).take k).map (.int .i64) ++ [.int .i64 (q : Int)] := by
    rw [take_succ_getD (ordZ M) 0 (by rw [ordZ_len]; exact hk), List.map_append, ordZ_get M hk, hq]; rfl
  refine ⟨⟨⟨A6, c6, ?_, ?_, rfl⟩, (key p3 (lt_of_block h.num) b3 (fun e => d13 e.symm) (fun e => d23 e.symm)).trans h.num, ?_, (key l (lt_of_block h.lp) bl (fun e => d1l e.symm) (fun e => d2l e.symm)).trans h.lp, (key D (lt_of_block h.dfd) bD (fun e => d1D e.symm) (fun e => d2D e.symm)).trans h.dfd⟩, ?_, ?_⟩
  · exact set_block hp1 _
  · rw [hqM]; exact ownsRow_setCell_other hown (own_ne hown hp1 (by decide)) _
  · have h5 := (h.arr.stored q (.int .i64 (k : Int))).1
    rw [← List.map_set, ← hq, ← numsTo_succ M hk] at h5
    rw [hq] at h5
    refine own_agree (h5.alloc (.cells #[.int .i64 (q : Int)] 3)) fun b e => ?_
    have hb : b = p2 := by simpa [Value.ownBlock] using e
    subst hb
    rw [Below.heap_setCell _ _ _ _ (fun e => d12 e.symm)]
    exact hg.block b (by have := (h.arr.lt b rfl).2; simp; omega) fun e => by have := hle b e; omega
  · rcases hat with h6 | h6
    · exact .inl (h6.trans h3.symm)
    · exact .inr ⟨_, h6, by omega⟩
  · exact ((((Chg.refl _ W).set _ _ (fun _ => .inl (.inr (.inl rfl)))).alloc _).grown hg (fun b e _ => .inr (h3.trans e))).set _ _ (fun _ => .inl (.inl rfl))
end

set_option maxRecDepth 100000 in
set_option maxHeartbeats 8000000 in
theorem order_any (fn : Nat) (caps : Array Value) (M : Mac) (I : World → Prop) (V : Dom) (B : Nat) (hmv : MvF fn caps M I V B) (hM : M.Ok) (hs : M.size ≤ 10000) (hi : M.ins ≤ 64) : OrdSays fn caps M I V B := by
  intro w hI hB
  obtain ⟨i0, hti, hz0, hz1, hz2⟩ := info_parts int_info
  have HM := hid hmv
  have HOK := hid hM
  have HI := hid hI
  have hmk := run_make_zrow (P := Try.prog) 34 3 i0 (.int .i64 0) 8 Try.underlying34 hti hz0 hz1 hz2 rfl .i64 .i64 M.size (by omega) (by omega)
  clear hmv hM hI
  unfold machV
  refine (callsIn_wide (n := 3)).1 (callsIn_of_wp_marks Try.func54 rfl trivial ?_ rfl)
  simp only [Try.ntmps54, List.size_toArray, List.length_cons, List.length_nil, Nat.reduceAdd, Nat.reduceSub, Array.replicate_succ, Array.replicate_zero, List.push_toArray, List.append_toArray, List.nil_append, List.cons_append]
  refine wpIn_wide.2 ?_
  go_upto_region 3 with (fail)
  refine wp_gen fun W1 hW1 => ?_
  have hb1 : Below w.heap.size w W1 := by rw [hW1]; go_grown
  have hx1 : W1.heap[w.heap.size]? = some (.cells #[.int .i64 M.size, .int .i64 M.start, .int .i64 M.ins, .int .i64 M.outs, .func (.func fn) #[] caps] 50 (0, 0)) := by
    rw [hW1]; (repeat (first | (refine at_new _ _ _ ?_; (simp only [World.size_alloc]; done)) | (refine (at_old _ _ _ ?_).trans ?_; (simp only [World.size_alloc]; omega))))
  have hl1 : W1.heap[w.heap.size + 1]? = some (.cells #[.slice none 0 0] 34 (0, 0)) := by
    rw [hW1]; (repeat (first | (refine at_new _ _ _ ?_; (simp only [World.size_alloc]; done)) | (refine (at_old _ _ _ ?_).trans ?_; (simp only [World.size_alloc]; omega))))
  have ho1 : W1.ownsRow w.heap.size 3 1 (.slice (some ⟨w.heap.size + 1 + 1, 0, none⟩) M.size M.size) M.size (List.replicate M.size (.int .i64 0)) := by
    rw [hW1]
    have := own_zrow ((w.alloc (.cells #[.int .i64 M.size, .int .i64 M.start, .int .i64 M.ins, .int .i64 M.outs, .func (.func fn) #[] caps] 50)).alloc (.cells #[.slice none 0 0] 34)) w.heap.size (.int .i64 0) M.size 3 (by simp; omega) (maxLen_le (by omega))
    simp only [World.size_alloc] at this
    exact this.alloc _
  have hn1 : W1.heap[w.heap.size + 1 + 1 + 1]? = some (.cells #[.slice (some ⟨w.heap.size + 1 + 1, 0, none⟩) M.size M.size] 34 (0, 0)) := by
    rw [hW1]; (repeat (first | (refine at_new _ _ _ ?_; (simp only [World.size_alloc]; done)) | (refine (at_old _ _ _ ?_).trans ?_; (simp only [World.size_alloc]; omega))))
  have hsz1 : W1.heap.size = w.heap.size + 4 := by rw [hW1]; simp
  have x0 := block_cell hx1 (i := 0) rfl
  have x1 := block_cell hx1 (i := 1) rfl
  have x2 := block_cell hx1 (i := 2) rfl
  have x3 := block_cell hx1 (i := 3) rfl
  have x4 := block_cell hx1 (i := 4) rfl
  have HB1 := hid hb1
  have HX1 := hid hx1
  have HL1 := hid hl1
  have HO1 := hid ho1
  have HN1 := hid hn1
  have HSZ1 := hid hsz1
  clear hW1 hb1 hx1 hl1 ho1 hn1 hsz1
  go_wp2_with fail
  refine (search_any fn caps M W1).mono ?_
  rintro e w2 ⟨rfl, rfl⟩
  go_wp2_with fail
  refine wp_gen fun W2 hW2 => ?_
  have hb2 : Below W1.heap.size W1 W2 := by rw [hW2]; go_grown
  have hx2 : W2.heap[W1.heap.size]? = some (.cells #[.int .i64 M.size, .int .i64 M.start, .int .i64 M.ins, .int .i64 M.outs, .func (.func fn) #[] caps] 50 (0, 0)) := by rw [hW2]; exact heap_alloc_new W1 _
  have hsz2 : W2.heap.size = W1.heap.size + 1 := by rw [hW2]; simp
  have HB2 := hid hb2
  have HX2 := hid hx2
  have HSZ2 := hid hsz2
  clear hb2 hx2 hsz2 hW2 x0 x1 x2 x3 x4
  refine wp_range (gf := 72) (lb := #[.pointer (some ⟨W1.heap.size, 0, none⟩)]) rfl (enters_of Try.func72 (by kernel_rfl) rfl) fun fnr r hr => ?_
  have hI2 : I ((W2.alloc (.deferred (some []))).alloc (.loop r)) := HM.out.keep _ _ HI.out hB (((HB1.out.trans (HB2.out.mono HB1.out.size)).mono hB |>.alloc (by have := HB1.out.size; have := HB2.out.size; omega) _).alloc (by have := HB1.out.size; have := HB2.out.size; simp; omega) _)
  refine (srch_any (W2.heap.size + 1) (Jr M w.heap.size (W2.heap.size + 1 + 1) (w.heap.size + 1) (w.heap.size + 1 + 1) (w.heap.size + 1 + 1 + 1) W2.heap.size (W2.heap.size + 1) r) (Zr (w.heap.size + 1) (w.heap.size + 1 + 1) (w.heap.size + 1 + 1 + 1) W2.heap.size (W2.heap.size + 1)) fn caps M I V B HM.out HOK.out hs hi _ hI2 ?_ ?_ ?_ W1.heap.size ?_ ?_ ?_ ?_).mono ?_
  · simp only [World.size_alloc]; have := HB1.out.size; have := HB2.out.size; omega
  · rw [World.size_alloc, World.size_alloc]
    have hs2 : W2.heap.size = w.heap.size + 5 := by rw [HSZ2.out, HSZ1.out]
    have HS2 := hid hs2
    refine ⟨fun k ob W b hj e => ?_, fun b hb => ?_, fun k ob W W' hj _ hb => hj.keep hb, fun k ob W hj hk => ?_⟩
    · obtain ⟨A, c, h1, h2, h3⟩ := hj.ex
      exact h2.lt b (h3.symm.trans e)
    · rcases hb with hb | hb | hb | hb | hb <;> omega
    · obtain ⟨A, c, h1, h2, h3⟩ := hj.ex
      have hlp := hj.lp
      have hps : r.params.size = 1 := by rw [hr]; rfl
      have hst : r.state = .ready := by rw [hr]; rfl
      obtain ⟨q, hq⟩ : ∃ q, (ord M).getD k 0 = q := ⟨_, rfl⟩
      have hqM : q < M.size := by rw [← hq]; exact ord_lt HOK.out _ (getD_mem _ 0 hk)
      rw [hq]
      refine ⟨_, _, _, _, run_yield hlp (by rw [hps]; rfl), ?_⟩
      obtain ⟨rb, hrb⟩ : ∃ rb : Loop, rb = { r with state := .busy } := ⟨_, rfl⟩
      have fin : ∀ (R : Ending → World → Prop), (∀ W3 ob', Jr M w.heap.size (W2.heap.size + 1 + 1) (w.heap.size + 1) (w.heap.size + 1 + 1) (w.heap.size + 1 + 1 + 1) W2.heap.size (W2.heap.size + 1) rb (k + 1) ob' W3 → (ob' = ob ∨ ∃ b, ob' = some b ∧ W.heap.size ≤ b) →
          Chg (fun b => Zr (w.heap.size + 1) (w.heap.size + 1 + 1) (w.heap.size + 1 + 1 + 1) W2.heap.size (W2.heap.size + 1) b ∨ ob = some b) W W3 → R (.returned (.bool true)) (W3.putObj (W2.heap.size + 1) (.loop r))) →
          RoundIn Fence.wide 0 Try.prog (W2.heap.size + 1) r.fn ((r.params.zip #[.int .i64 (q : Int)]).foldl (fun tmps x => tmps.setIfInBounds x.1 x.2) r.tmps) r.assign r.body W R := by
        intro R hR
        refine roundIn_of_wpIn trivial ?_
        have HR := hid hR
        have HJ := hid hj
        have HLP := hid hlp
        have HST := hid hst
        have HS2' := hid hs2
        have hWl : W2.heap.size + 1 < W.heap.size := lt_of_block hlp
        clear hR hj hlp hst hps hs2
        subst hr
        dsimp only [recOf]
        gi_wp2
        refine ⟨_, run_beginRound HLP.out rfl, ?_⟩
        refine wpIn_gen fun Wb hWb => ?_
        have hWb' : Wb = W.putObj (W2.heap.size + 1) (.loop rb) := hWb.trans (by rw [hrb])
        have hjb := HJ.out.put (by have := HS2'.out; omega) (by have := HS2'.out; omega) (by have := HS2'.out; omega) (by omega) (by omega) rb
        have g1 := (World.putObj_heap_other (w := W) (o := .loop rb) (show w.heap.size + 1 ≠ W2.heap.size + 1 by have := HS2'.out; omega)).trans h1
        have g2 := own_agree (W := W.putObj (W2.heap.size + 1) (.loop rb)) h2 (fun b e => World.putObj_heap_other (fun x => by have := (h2.lt b e.symm).1; omega))
        have hszb : Wb.heap.size = W.heap.size := by rw [hWb']; simp
        have hchb : Chg (fun b => Zr (w.heap.size + 1) (w.heap.size + 1 + 1) (w.heap.size + 1 + 1 + 1) W2.heap.size (W2.heap.size + 1) b ∨ ob = some b) W Wb := by
          rw [hWb']
          exact ⟨rfl, rfl, rfl, by simp, fun b _ hb => World.putObj_heap_other (fun e => hb (.inl (.inr (.inr (.inr (.inr e))))))⟩
        rw [← hWb'] at hjb g1 g2
        have n1 : (rb.fn = fnr ∧ rb.params = #[12]) := by rw [hrb]; exact ⟨rfl, rfl⟩
        have y1 := block_cell g1 (i := 0) rfl
        have y2 := block_cell hjb.num (i := 0) rfl
        have y3 : Wb.cell? ⟨w.heap.size + 1 + 1, q, none⟩ = some (.int .i64 ((numsTo M k).getD q 0)) := by rw [hjb.arr.cellAt q (by omega)]; simp [numsTo_len, hqM]
        have y4 : Wb.frozen? ⟨w.heap.size + 1 + 1, q, none⟩ = false := hjb.arr.frozenAt q
        have y5 := block_free g1 (i := 0)
        have hqi : (q : Int) < M.size := by omega
        have hkl : k ≤ 10000 := by have := ord_len HOK.out; omega
        have HJB := hid hjb
        have HG1 := hid g1
        have HG2 := hid g2
        have HSZB := hid hszb
        have HCHB := hid hchb
        have HRB := hid hrb
        have HQ := hid hq
        have H3 := hid h3
        have H1 := hid h1
        have H2 := hid h2
        clear hWb hWb' hjb g1 g2 hszb hchb hrb hq h3 h1 h2 n1
        have hne : (Value.slice A k c).ownBlock ≠ some (w.heap.size + 1 + 1) := fun e => by have := (HG2.out.lt _ e).1; have := HS2'.out; omega
        gi_wp2_with (gi_at_builtin; go_must (refine wpListIn_append_rd _ rfl (.tmp 18) (.tmp 20) 34 rfl (W2.heap.size + 1 + 1) 3 i0 _ 1 8 Try.underlying34 hti hz0 hz1 hz2 rfl (by omega) (.slice A k c) k _ rfl ((ownsRow_setCell_other HG2.out hne _).alloc _) _ (some ⟨Wb.heap.size, 0, none⟩) 1 1 _ rfl (Rd.cell1 (cell_new _ _ _ _ _ _ (by simp) rfl)) (by simp [Value.oneCell']) (by omega) (maxLen_le (by omega)) (by have := HSZB.out; simp; omega) ?_); intro A6 c6 w6 hown6 hg6 hat6; have e6c := Jr.old (B1 := W2.heap.size + 1 + 1) HG1.out (fun b e => (HG2.out.lt b e.symm).1) (by omega) (by have := HS2'.out; omega) hg6; have e6d := block_cell e6c (i := 0) rfl; have e6f := block_free e6c (i := 0))
        have hnx := HJB.out.next hk HQ.out HG1.out HG2.out H3.out (by omega) (by omega) (by have := HS2'.out; omega) (by have := HS2'.out; omega) (by omega) (by have := HS2'.out; omega) (by have := HS2'.out; omega) (by have := HS2'.out; omega) (by have := HS2'.out; omega) (by have := HS2'.out; omega) (by omega) (by omega) hg6 hown6 (by simpa using hat6)
        have hl6 := hnx.1.lp
        refine ⟨_, _, run_endRound none hl6, ?_⟩
        have hfin := HR.out _ _ hnx.1 (by rcases hnx.2.1 with h | ⟨b, h, h'⟩; exact .inl h; exact .inr ⟨b, h, by rw [← HSZB.out]; exact h'⟩) (HCHB.out.trans hnx.2.2)
        rw [HRB.out]
        exact hfin
      refine fin _ fun W3 ob' hj3 ho3 hc3 => ⟨rfl, ob', hj3.put (by omega) (by omega) (by omega) (by omega) (by omega) r, ho3, hc3.trans' (U := fun b => b = W2.heap.size + 1) ⟨rfl, rfl, rfl, by simp, fun b _ hb => World.putObj_heap_other hb⟩ (fun b _ hb => .inl (.inr (.inr (.inr (.inr hb)))))⟩
  · intro b hb
    have h1 := HSZ1.out
    have h2 := HSZ2.out
    rcases hb with hb | hb | hb | hb | hb <;> omega
  · rw [Below.heap_alloc _ _ _ (by simp; have := HSZ2.out; omega), Below.heap_alloc _ _ _ (by have := HSZ2.out; omega)]
    exact HX2.out
  · intro hv
    have := HM.out.priv _ hv
    have := HB1.out.size
    omega
  · intro hb
    have h1 := HSZ1.out
    have h2 := HSZ2.out
    rcases hb with hb | hb | hb | hb | hb <;> omega
  · have h1 := HSZ1.out
    have h2 := HSZ2.out
    have key : ∀ b, b < W1.heap.size → ((W2.alloc (.deferred (some []))).alloc (.loop r)).heap[b]? = W1.heap[b]? := fun b hb => by
      rw [Below.heap_alloc _ _ _ (by simp; omega), Below.heap_alloc _ _ _ (by omega)]
      exact HB2.out.block b hb
    refine ⟨⟨none, 0, (key _ (by omega)).trans HL1.out, ⟨rfl, .inl ⟨rfl, rfl⟩⟩, rfl⟩, (key _ (by omega)).trans HN1.out, ?_, at_new _ _ _ (by simp), ?_⟩
    · rw [numsTo_zero]
      refine own_agree HO1.out fun b e => key b ?_
      have : b = w.heap.size + 1 + 1 := by simpa [Value.ownBlock] using e
      omega
    · rw [at_old _ _ _ (by simp)]
      exact at_new _ _ _ rfl
  · rintro e w3 ⟨⟨v, rfl⟩, ob, hj, hI3, hc3⟩
    refine ⟨⟨_, rfl⟩, hj.lp, ?_⟩
    have h1 := HSZ1.out
    have h2 := HSZ2.out
    have hj4 := hj.put (by omega) (by omega) (by omega) (by omega) (by omega) { r with state := .exhausted }
    have hc4 : Chg (fun b => b = W2.heap.size + 1) w3 (w3.putObj (W2.heap.size + 1) (.loop { r with state := .exhausted })) := ⟨rfl, rfl, rfl, by simp, fun b _ hb => World.putObj_heap_other hb⟩
    revert hj4 hc4
    generalize w3.putObj (W2.heap.size + 1) (.loop { r with state := .exhausted }) = w4
    intro hj4 hc4
    have hw3 : w.heap.size ≤ w3.heap.size := by have := hc3.size; simp at this; omega
    have hI4 := HM.out.keep _ _ hI3 (by omega) (hc4.below (fun b h e => by omega) (by omega))
    obtain ⟨A, c, e1, e2, e3⟩ := hj4.ex
    have y1 := block_cell e1 (i := 0) rfl
    have y2 := block_cell hj4.num (i := 0) rfl
    have HJ4 := hid hj4
    have HI4 := hid hI4
    have HE2 := hid e2
    have HC4 := hid hc4
    have HC3 := hid hc3
    clear hj hj4 hI3 hI4 e1 e2 e3 hc4 hc3 h1 h2
    dsimp only
    go_wp2_with fail
    go_quiet (fail)
    go_wp2_with fail
    refine ⟨by simp, .inl ⟨_, _, rfl, run_takeDeferred (show (w4.drewN nq).heap[W2.heap.size]? = some (.deferred (some [])) from HJ4.out.dfd), ?_⟩⟩
    refine ⟨.tuple #[.slice A (ord M).length c, .slice (some ⟨w.heap.size + 1 + 1, 0, none⟩) M.size M.size], by simp [results, Try.results54, go_sem], ?_⟩
    have h1 := HSZ1.out
    have h2 := HSZ2.out
    have hkp : ∀ b, b ≠ W2.heap.size → ((w4.drewN nq).putObj W2.heap.size (.deferred none)).heap[b]? = w4.heap[b]? := fun b hb => World.putObj_heap_other hb
    have hD : W2.heap.size < w4.heap.size := lt_of_block HJ4.out.dfd
    have hw4 : w.heap.size ≤ w4.heap.size := by omega
    have hout : ((w4.drewN nq).putObj W2.heap.size (.deferred none)).heap.size = w4.heap.size := by simp
    have hchg : Chg (fun b => b = W2.heap.size) w4 ((w4.drewN nq).putObj W2.heap.size (.deferred none)) := ⟨rfl, rfl, rfl, by rw [hout]; exact Nat.le_refl _, fun b _ hb => hkp b hb⟩
    have hz : (ordZ M).length = (ord M).length := ordZ_len M
    have hz2 : (numsZ M).length = M.size := numsZ_len M
    refine ⟨A, c, some ⟨w.heap.size + 1 + 1, 0, none⟩, M.size, by rw [hz, hz2], HM.out.keep _ _ HI4.out (by omega) (hchg.below (fun b h e => by omega) (by omega)), ?_, ?_, ?_⟩
    · have hc0 : Chg V w ((W2.alloc (.deferred (some []))).alloc (.loop r)) := Chg.of_new (((HB1.out.trans (HB2.out.mono HB1.out.size)).alloc (by omega) _).alloc (by simp; omega) _)
      refine ((hc0.trans' HC3.out fun b hb h => ?_).trans' HC4.out fun b hb h => ?_).trans' hchg fun b hb h => ?_
      · rcases h with h | h
        · exact h
        · rcases h with h | h | h | h | h <;> omega
      · omega
      · omega
    · have hlst := own_agree (W := (w4.drewN nq).putObj W2.heap.size (.deferred none)) HE2.out fun b e => hkp b (by have := (HE2.out.lt b e.symm).1; omega)
      have htk : (ordZ M).take (ord M).length = ordZ M := by rw [← hz]; exact List.take_length
      rw [htk] at hlst
      unfold RdI
      rw [hz]
      exact Rd.own hlst (by have := ord_len HOK.out; omega) (fun b h => by omega)
    · have harr := own_agree (W := (w4.drewN nq).putObj W2.heap.size (.deferred none)) HJ4.out.arr fun b e => hkp b (by
        have : b = w.heap.size + 1 + 1 := by simpa [Value.ownBlock] using e
        omega)
      rw [numsTo_all] at harr
      unfold RdI
      rw [hz2]
      exact Rd.own harr (by omega) (fun b h => h)
end Go.Proofs.Ytcmhginhfhiolaa
