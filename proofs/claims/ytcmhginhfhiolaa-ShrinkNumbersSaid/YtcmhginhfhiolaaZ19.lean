/-
  Walk of merge.
-/
import Derived.Test.YtcmhginhfhiolaaZ18
set_option linter.unusedVariables false
set_option linter.unusedSimpArgs false
namespace Go.Proofs.Ytcmhginhfhiolaa
open Go.RowKit
attribute [local go_sem] cell_alloc_old

def MergeSays (L : Mac) (E : Rel) (n k tb cb mb rb : Nat) (Q : TLA) (clash : List (List Bool)) (er : List (List Int)) (f : Nat → Nat) (w : World) (e : Ending) (w' : World) : Prop :=
  ∃ r f' er', e = .returned (.bool r) ∧ TL L w' tb cb mb rb Q clash er' f' ∧ Chg (fun b => b = mb ∨ b = rb) w w' ∧
    (r = true → CanJoin L E n k ∧ (∀ i j, i < L.size → j < L.size → (JoinRel L E n k i j ↔ f' i = f' j)) ∧ RowsOk L f' er' ∧ ∀ i, i < L.size → f' i < L.size) ∧ (r = false → f' = f ∧ er' = er ∧ ¬ CanJoin L E n k)

/-- The blocks that the round over the inputs may change: that of the joined row, and rows of pairs from block B on. -/
def JV (w : World) (v : Value) (B : Nat) : Dom := fun b => some b = v.ownBlock ∨ (B ≤ b ∧ ∃ cs fr, w.heap[b]? = some (.cells cs 57 fr))
theorem below_da (w : World) (j : Nat) (o : Obj) : Below w.heap.size w ((w.drewN j).alloc o) := ((Drawn.n w j).below _).alloc (Nat.le_refl _) o
theorem below_ad (w : World) (j : Nat) (o : Obj) : Below w.heap.size w ((w.alloc o).drewN j) := ((Below.refl _ w).alloc (Nat.le_refl _) o).trans ((Drawn.n _ j).below _)
theorem jv_pairs {w wr : World} {v : Value} {B base n : Nat} {u : Value} {xs : List Value} (h : wr.ownsRow base 57 2 u n xs) (hB : B ≤ base) (hc : Chg (JV w v B) w wr) {k : Nat} (e : u.ownBlock = some k) (hk : k < w.heap.size) : JV w v B k := by
  by_cases hj : JV w v B k
  · exact hj
  · refine .inr ⟨Nat.le_trans hB (h.lt k e).1, ?_⟩
    rcases h.2 with ⟨hv, _⟩ | ⟨g, cap, cur, hv, _, hh, _⟩
    · rw [hv] at e; cases e
    · rw [hv] at e
      injection e with e
      subst e
      exact ⟨_, _, (hc.block _ hk hj).symm.trans hh⟩
theorem jv_not {w : World} {v : Value} {B b : Nat} {cs : Array Value} {t : TypeId} {fr : Nat × Nat} (hb : w.heap[b]? = some (.cells cs t fr)) (ht : t ≠ 57) (hv : some b ≠ v.ownBlock) : ¬ JV w v B b := fun h => by
  rcases h with h | ⟨_, cs', fr', h⟩
  · exact hv h
  · rw [hb] at h
    injection h with h
    injection h with _ h
    exact ht h
theorem jv_not_map {w : World} {v : Value} {B b : Nat} {lv : List (Nat × Value)} (hm : MapIs encI w b lv) (hv : some b ≠ v.ownBlock) : ¬ JV w v B b := fun h => by
  rcases h with h | ⟨_, cs', fr', h⟩
  · exact hv h
  · exact map_ne_cells hm h rfl

set_option maxRecDepth 100000 in
set_option maxHeartbeats 8000000 in
theorem merge_any (L : Mac) (hL : L.Ok) (hs : L.size ≤ 3000) (hi0 : 1 ≤ L.ins) (hi : L.ins ≤ 64) (E : Rel) (n k tb cb mb rb : Nat) (Q : TLA) (clash : List (List Bool)) (er : List (List Int)) (f : Nat → Nat) (w : World)
    (ht : TL L w tb cb mb rb Q clash er f) (hcl : ClashOk L clash) (hro : RowsOk L f er) (hE : Good L E) (hrep : RepF L E f) (hfr : ∀ i, i < L.size → f i < L.size) (hn : n < L.size) (hk : k < L.size) :
    Calls Try.prog 61 #[.pointer (some ⟨tb, 0, none⟩), .int .i64 (n : Int), .int .i64 (k : Int)] w fun e w' => MergeSays L E n k tb cb mb rb Q clash er f w e w' := by
  have hmm := @run_makeMap Try.prog
  have hmf : ∀ (fn : Fn) (first cap : Array Value) (w : World), (Instr.makeFunc fn first cap).run Try.prog w = .ok (.func fn first cap) w := fun _ _ _ _ => rfl
  obtain ⟨i0, hti, hz0, hz1, hz2⟩ := info_parts two_info
  obtain ⟨i1, htr, hy0, hy1, hy2⟩ := info_parts int_info
  have HT := hid ht
  have HCLO := hid hcl
  have HE := hid hE
  have HLO := hid hL
  have HM0 := hid (Mrg.init (L := L) (E0 := E) (n := n) (k := k) (f := f) hL hn hk hfr (fun i j hi hj => (hrep i j hi hj).symm) hE)
  have HRO := hid hro
  have hl := ht.lt
  have hne := ht.ne
  have hrt := roots_le L.size f
  clear ht hcl hro hE hrep hfr hL
  go_enter Try.func61, Try.ntmps61
  go_upto_region 1 with (fail)
  refine wp_gen fun W1 hW1 => ?_
  have hb1 : Below w.heap.size w W1 := by rw [hW1]; go_grown
  have hp1 : W1.heap[w.heap.size]? = some (.cells #[.pointer (some ⟨tb, 0, none⟩)] 66 (0, 0)) := by rw [hW1]; exact heap_alloc_new w _
  have HB1 := hid hb1
  have HP1 := hid hp1
  have hT1 := HT.out.below hb1
  have HT1 := hid hT1
  have x0 := block_cell hp1 (i := 0) rfl
  have x3 := block_cell hT1.box (i := 3) rfl
  have hs1 := hb1.size
  clear hW1 hb1 hp1 hT1
  go_wp2_with fail
  refine (copy_int cb mb f W1 HT1.out.cls).mono ?_
  rintro e w2 ⟨rfl, hb2, l, hcls2⟩
  have HB2 := hid (HB1.out.trans (hb2.mono hs1))
  have HP2 := hid ((hb2.block _ (lt_of_block HP1.out)).trans HP1.out)
  have HC2 := hid hcls2
  have hlt2 := hcls2.lt
  have hs2 := hb2.size
  have hpl := lt_of_block HP1.out
  obtain ⟨mb2, hmb2⟩ : ∃ mb2, mb2 = W1.heap.size := ⟨_, rfl⟩
  rw [← hmb2] at hcls2 HC2 hlt2 ⊢
  have hmb2w : w.heap.size < mb2 := by omega
  clear hb2 hcls2 x0 x3 hmb2
  go_wp2_with fail
  refine wp_gen fun W3 hW3 => ?_
  have hb3 : Below w2.heap.size w2 W3 := by rw [hW3]; go_grown
  have hm3 : W3.heap[w2.heap.size]? = some (.map #[] 0) := by
    rw [hW3]; (repeat (first | (refine at_new _ _ _ ?_; (simp only [World.size_alloc]; done)) | (refine (at_old _ _ _ ?_).trans ?_; (simp only [World.size_alloc]; omega))))
  have hv3 : W3.heap[w2.heap.size + 1]? = some (.cells #[.map (some w2.heap.size)] 105 (0, 0)) := by
    rw [hW3]; (repeat (first | (refine at_new _ _ _ ?_; (simp only [World.size_alloc]; done)) | (refine (at_old _ _ _ ?_).trans ?_; (simp only [World.size_alloc]; omega))))
  have hl3 : W3.ownsRow (w2.heap.size + 1 + 1) 57 2 (.slice (some ⟨w2.heap.size + 1 + 1, 0, none⟩) 1 1) 1 ([(n, k)].flatMap pcells) := by
    have hnew : W3.heap[w2.heap.size + 1 + 1]? = some (.cells #[.int .i64 (n : Int), .int .i64 (k : Int)] 57 (0, 0)) := by
      rw [hW3]; (repeat (first | (refine at_new _ _ _ ?_; (simp only [World.size_alloc]; done)) | (refine (at_old _ _ _ ?_).trans ?_; (simp only [World.size_alloc]; omega))))
    exact ⟨rfl, .inr ⟨_, 1, _, rfl, Nat.le_refl _, hnew, by simp, by decide, by simp, by simp [pcells]⟩⟩
  have HV3 := hid hv3
  have HL3 := hid hl3
  have HP3 := hid ((hb3.block _ (lt_of_block HP2.out)).trans HP2.out)
  have HC3 := hid (HC2.out.below hb3)
  have HB3 := hid (HB2.out.trans (hb3.mono HB2.out.size))
  have hO3 : OvI (fun _ => False) w.heap.size W3 w2.heap.size L.size [] er er := ⟨⟨#[], 0, hm3, rfl, rfl⟩, by simp, (fun p h => by cases h), HRO.out.len, (fun i v h => by cases h), fun _ _ _ => rfl⟩
  have HO3 := hid hO3
  have hs3 : w2.heap.size + 1 < W3.heap.size := lt_of_block hv3
  have hs23 := hb3.size
  have hw2w : w.heap.size + 1 < w2.heap.size := by omega
  clear hW3 hb3 hm3 hv3 hl3 hO3
  obtain ⟨mr, hmr⟩ : ∃ mr, mr = w2.heap.size := ⟨_, rfl⟩
  rw [← hmr] at HV3 HL3 HO3 hs3 hw2w hlt2 ⊢
  clear hmr
  go_loopg [10] (1 + 65 * 3000) (fun gk s wr => ∃ (ts : List (Nat × Nat)) (A : Option Addr) (c : Nat) (f2 : Nat → Nat) (er2 : List (List Int)) (lv : List (Nat × Value)), s = .slice A ts.length c ∧ wr.ownsRow (mr + 1 + 1) 57 2 (.slice A ts.length c) ts.length (ts.flatMap pcells) ∧
    Cls encI 99 wr (mb2 + 1) mb2 [(cb, mb, l)] f2 ∧ OvI (fun _ => False) w.heap.size wr mr L.size lv er er2 ∧ RowsOk L f2 er2 ∧ Mrg L E n k f2 ts ∧ wr.heap[mr + 1]? = some (.cells #[.map (some mr)] 105 (0, 0)) ∧
    ts.length + 65 * roots L.size f2 ≤ gk ∧ ts.length + 65 * roots L.size f2 ≤ 1 + 65 * 3000 ∧ Chg (fun b => b = mb2 ∨ b = mr ∨ mr + 1 + 1 ≤ b) W3 wr)
  case atStart => exact ⟨[(n, k)], _, _, f, er, [], rfl, HL3.out, HC3.out, HO3.out, HRO.out, HM0.out, HV3.out, by show 1 + _ ≤ _; omega, by show 1 + _ ≤ _; omega, Chg.refl _ _⟩
  case round =>
    obtain ⟨ts, A, c, f2, er2, lv, rfl, hown, hcls, hov, hrok, hmrg, hv, hg1, hg2, hch⟩ := hrel
    have hbw : Below w.heap.size w wr := HB3.out.trans (hch.below (fun b h1 h2 => by omega) HB3.out.size)
    have HBW := hid hbw
    have HTW := hid (HT.out.below hbw)
    have HPW := hid (hch.box HP3.out (by omega))
    have hszr := hch.size
    rcases List.eq_nil_or_concat ts with rfl | ⟨ts', ⟨p, q⟩, hts⟩
    · have hdone := hmrg.done
      have hmfr := hmrg.fr
      have HDONE := hid hdone
      have HFR := hid hmfr
      have HROK := hid hrok
      have HOV := hid hov
      have HV := hid hv
      have p0 := block_cell HPW.out (i := 0) rfl
      have x3 := block_cell HTW.out.box (i := 3) rfl
      have HACC := hid (accept_int cb mb (mb2 + 1) mb2 l f2 wr hcls)
      have hgn : lv.length ≤ lv.length := Nat.le_refl _
      clear hown hcls hov hrok hmrg hv hdone hmfr hg1 hg2 hch hgn
      go_wp2_with fail
      refine HACC.out.mono ?_
      rintro e w5 ⟨rfl, hcl5, hch5⟩
      have hT5 := HTW.out.chg hch5 hcl5
      have hP5 := hch5.box HPW.out (by omega)
      have hV5 := hch5.box HV.out (by omega)
      have hO5 : OvI (fun _ => False) w.heap.size w5 mr L.size lv er er2 := HOV.out.keep (hch5.block mr HOV.out.map.lt (by omega)) (hch5.keeps fun z hz hd e => by
        have := hd.1
        omega) (fun _ _ h => h)
      have HT5 := hid hT5
      have HO5 := hid hO5
      have HCH5 := hid (show Chg (fun b => b = mb ∨ b = rb) w w5 from (Chg.of_new HBW.out).trans (hch5.mono fun z _ h => .inl h))
      have v5 := block_cell hV5 (i := 0) rfl
      obtain ⟨w6, hrng, hri, hb6, hs6⟩ := run_range_b (P := Try.prog) (K := 3) (T := 105) (E := 34) (by kernel_rfl) hO5.map
      obtain ⟨r, hr⟩ : ∃ r, r = w5.heap.size := ⟨_, rfl⟩
      rw [← hr] at hrng hri
      have hT6 := hT5.below hb6
      have HT6 := hid hT6
      have HO6 := hid (hO5.below hb6)
      have HP6 := hid ((hb6.block _ (lt_of_block hP5)).trans hP5)
      have HRI := hid hri
      obtain ⟨cur0, h1, h2, h3, h4, h5, h6⟩ := HT5.out.rows
      have H1 := hid ((hb6.block _ (lt_of_block h1)).trans h1)
      have H6 := hid h6
      have hTlt := hT5.lt
      have hmrl := hO5.map.lt
      have hpbl := lt_of_block hP5
      have HB6 := hid hb6
      have HRE := hid hr
      have hrl2 : r ≤ w5.heap.size := by omega
      have hrl3 : w5.heap.size ≤ r := by omega
      clear hcl5 hch5 hT5 hP5 hV5 hO5 hri hb6 hT6 h1 h5 h6 hr p0 x3
      go_wp2_with fail
      clear hrng v5
      go_loopg [19, 20] (cntLeft lv.length (fun _ => true)) (fun gk s19 s20 wr => ∃ (left : Nat → Bool) (cur : Array Value), RngIs encI wr mr r lv left ∧ wr.heap[rb]? = some (.cells cur 34 (0, 0)) ∧ cur.size = Q.cr ∧
        (∀ i, i < L.size → (∃ (j : Nat) (p : Nat × Value), lv[j]? = some p ∧ p.1 = i ∧ cur[i]? = some p.2) ∨ (cur[i]? = cur0[i]? ∧ ∀ (j : Nat) (p : Nat × Value), lv[j]? = some p → p.1 = i → left j = true)) ∧ cntLeft lv.length left ≤ gk ∧ Chg (fun b => b = rb ∨ b = r) w6 wr)
      case atStart => exact ⟨_, cur0, HRI.out, H1.out, h4, (fun i _ => .inr ⟨rfl, fun _ _ _ _ => rfl⟩), Nat.le_refl _, Chg.refl _ _⟩
      case round =>
        obtain ⟨left, cur, hri, hrb, hcs, hcur, hcl, hch⟩ := hrel
        have HRI2 := hid hri
        have HRB := hid hrb
        have HCUR := hid hcur
        have HCHX := hid hch
        have hcs1 : cur.size ≤ Q.cr := by omega
        have hcs2 : Q.cr ≤ cur.size := by omega
        have HCS := hid hcs
        have hpx := hch.box HP6.out (by omega)
        have htx := hch.box HT6.out.box (by omega)
        have HPX := hid hpx
        have HTX := hid htx
        clear hri hrb hcur hch hcs
        rcases run_next_b (P := Try.prog) HRI2.out 0 with ⟨hall, hrun⟩ | ⟨i, p, w7, hi7, hli, hp, hrun, hr7, hg7, hs7, hen⟩
        · have hall2 : ∀ (j : Nat) (q : Nat × Value), lv[j]? = some q → left j = false := fun j q hj => hall j (List.getElem?_eq_some_iff.1 hj).1
          have hfin : TL L wr tb cb mb rb Q clash er2 f2 := by
            have hk : Keeps (fun z => Off mb rb z ∧ z < w5.heap.size) w5 wr := ⟨Nat.le_trans HB6.out.size HCHX.out.size, fun z hz hl => (HCHX.out.block z (by have := HB6.out.size; omega) (fun e => by
              rcases e with e | e
              · exact hz.1.2 e
              · omega)).trans (HB6.out.block z hl)⟩
            have hup : ∀ z, Off mb rb z → z < w5.heap.size → Off mb rb z ∧ z < w5.heap.size := fun z h1 h2 => ⟨h1, h2⟩
            have hn5 := HT5.out.ne
            refine ⟨HTX.out, ((HT5.out.out.mono hup).keep hk).mono (fun _ h _ => h.1), ((HT5.out.next.mono hup).keep hk).mono (fun _ h _ => h.1), ((HT5.out.clh.mono hup).keep hk).mono (fun _ h _ => h.1), HT5.out.clen, ⟨cur, HRB.out, h2, h3, HCS.out, HO5.out.len, fun i hi => ?_⟩, HT5.out.cls.keep fun z hz hl => ?_⟩
            · rcases HCUR.out i hi with ⟨j, q, hj, hqi, hc⟩ | ⟨hc, hno⟩
              · have hlk := lookB_get HO5.out.nd hj
                rw [hqi] at hlk
                obtain ⟨A, c, e, hr⟩ := HO5.out.yes i q.2 hlk
                refine ⟨A, c, by rw [hc, e], ((hr.mono fun z h1 h2 => ⟨⟨?_, ?_⟩, h2⟩).keep hk).mono (fun _ h _ => h.1)⟩
                · have := h1.1; omega
                · have := h1.1; omega
              · have hlk : lookB lv i = none := by
                  rcases hlk : lookB lv i with _ | v
                  · rfl
                  · obtain ⟨j, hj⟩ := List.getElem?_of_mem (lookB_some hlk)
                    have h1 := hno j _ hj rfl
                    rw [hall2 j _ hj] at h1; cases h1
                rw [HO5.out.no i hi hlk]
                obtain ⟨A, c, e, hr⟩ := H6.out i hi
                exact ⟨A, c, by rw [hc, e], ((hr.mono hup).keep hk).mono (fun _ h _ => h.1)⟩
            · refine (HCHX.out.block z (by have := HB6.out.size; omega) (fun e => ?_)).trans (HB6.out.block z hl)
              rcases e with e | e
              · rcases hz with h | h | ⟨q, hq, _⟩
                · exact hn5.2.2.2.1 (by rw [← h, e])
                · exact hn5.2.2.1 (by rw [← h, e])
                · cases hq
              · omega
          have HFIN := hid hfin
          have HCHF := hid (show Chg (fun b => b = mb ∨ b = rb) w wr from (HCH5.out.trans (Chg.of_new HB6.out)).trans' HCHX.out (fun z hz h => by
            rcases h with h | h
            · exact .inr h
            · have := HBW.out.size
              have := HCH5.out.size
              omega))
          clear hfin hall hall2
          go_wp2_with fail
          go_ret
          exact ⟨true, f2, er2, rfl, HFIN.out, HCHF.out, (fun _ => ⟨HDONE.out.1, HDONE.out.2, HROK.out, HFR.out⟩), fun h => by cases h⟩
        · have hpl := HO5.out.kl p (List.mem_of_getElem? hp)
          obtain ⟨A, c, ep, hr⟩ := HO5.out.yes p.1 p.2 (lookB_get HO5.out.nd hp)
          have hrb7 := (hg7.block rb (lt_of_block HRB.out) (by simp; omega)).trans HRB.out
          have htb7 := (hg7.block tb (lt_of_block HTX.out) (by simp; omega)).trans HTX.out
          have hpb7 := (hg7.block w.heap.size (lt_of_block HPX.out) (by simp; omega)).trans HPX.out
          have a0 := block_cell hpb7 (i := 0) rfl
          have a4 := block_cell htb7 (i := 4) rfl
          have hpc : p.1 < cur.size := by omega
          have hold := block_cell hrb7 (i := p.1) (u := cur[p.1]) (by rw [Array.getElem?_eq_getElem hpc])
          have hfree := block_free hrb7 (i := p.1)
          have hpi : (p.1 : Int) < L.size := by omega
          rw [ep] at hrun hen
          have hrun' : (Instr.next (.pointer (some ⟨r, 0, none⟩)) false 0).run Try.prog wr = .ok (.tuple #[.bool true, .int .i64 (p.1 : Int), .slice A (er2.getD p.1 []).length c]) w7 := hrun
          have hen' : (Instr.entry (.pointer (some ⟨r, 0, none⟩))).run Try.prog w7 = .ok (.tuple #[.int .i64 (p.1 : Int), .slice A (er2.getD p.1 []).length c]) w7 := hen
          have HR7 := hid hr7
          have HRB7 := hid hrb7
          have HCL7 := hid (cntLeft_less hi7 hli)
          have HCH7 := hid (HCHX.out.grown hg7 (fun z e _ => .inr (Option.some.inj e).symm))
          have HP := hid hp
          have HEP := hid ep
          have hrbmr : rb ≠ mr := by omega
          have hrbr : rb ≠ r := by omega
          clear hrun hen hr7 hg7 hs7 hrb7 htb7 hpb7 hr ep hp
          go_wp2_with fail
          go_roundg (cntLeft lv.length (fun j => left j && !decide (j = i)))
          case rel =>
            refine ⟨_, _, HR7.out.of_block (Below.heap_setCell _ _ _ _ (fun e => hrbmr e.symm)) (Below.heap_setCell _ _ _ _ (fun e => hrbr e.symm)), set_block HRB7.out _, by simpa using HCS.out, fun i' hi' => ?_, Nat.le_refl _, HCH7.out.set _ _ (fun _ => .inl rfl)⟩
            by_cases e : i' = p.1
            · subst e
              exact .inl ⟨i, p, HP.out, rfl, by rw [HEP.out]; simp [hpc]⟩
            · rcases HCUR.out i' hi' with ⟨j, q, h1, h2, h3⟩ | ⟨h1, h2⟩
              · exact .inl ⟨j, q, h1, h2, by rw [Array.getElem?_setIfInBounds_ne (fun e2 => e e2.symm)]; exact h3⟩
              · refine .inr ⟨by rw [Array.getElem?_setIfInBounds_ne (fun e2 => e e2.symm)]; exact h1, fun j q hj hq => ?_⟩
                have hji : j ≠ i := by
                  rintro rfl
                  rw [HP.out] at hj
                  injection hj with hj
                  exact e (by rw [← hq, hj])
                rw [h2 j q hj hq]
                simp [hji]
          all_goals (have := HCL7.out; omega)
    · rw [List.concat_eq_append] at hts
      subst hts
      rw [List.length_append, List.length_singleton] at hown hg1 hg2 ⊢
      obtain ⟨n', hn'⟩ : ∃ n', n' = ts'.length := ⟨_, rfl⟩
      have HN := hid hn'
      have hpq := hmrg.rng (p, q) (by simp)
      have hcell := pairs_cell (k := ts'.length) (L := ts' ++ [(p, q)]) (by rw [List.length_append, List.length_singleton]; exact hown) (by simp)
      have hgt : (ts' ++ [(p, q)]).getD ts'.length (0, 0) = (p, q) := by simp [List.getD]
      rw [hgt, ← hn'] at hcell
      obtain ⟨g, rfl, hgb, hgl, hc0, hc1⟩ := hcell
      have hcap := own_cap hown
      rw [← hn'] at hcap
      have hown2 := own_take hown (show ts'.length ≤ ts'.length + 1 by omega)
      have htk : ((ts' ++ [(p, q)]).flatMap pcells).take (ts'.length * 2) = ts'.flatMap pcells := by
        rw [List.flatMap_append, List.take_append_of_le_length (by rw [flat2_len]; exact Nat.le_refl _), List.take_of_length_le (by rw [flat2_len]; exact Nat.le_refl _)]
      rw [htk, ← hn'] at hown2
      rw [← hn'] at hg1 hg2 ⊢
      have hpL : p < L.size := hpq.1
      have hqL : q < L.size := hpq.2
      have hmrg2 : Mrg L E n k f2 ((p, q) :: ts') := hmrg.perm (fun r => by simp [or_comm])
      have HMRG := hid hmrg2
      have HOWN := hid hown2
      have HCL := hid hcls
      have HOV := hid hov
      have HROK := hid hrok
      have HV := hid hv
      have HCH := hid hch
      have x2 := block_cell HTW.out.box (i := 2) rfl
      have p0 := block_cell HPW.out (i := 0) rfl
      obtain ⟨b3, o3, A3, c3, r3, hA3, _, _, HR3, hr3, hc3⟩ := HTW.out.clh.get (show p < clash.length by rw [HTW.out.clen.1]; exact hpL)
      have hr3l : r3.length = L.size := by rw [← HR3.out]; exact HTW.out.clen.2 p hpL
      obtain ⟨b4, o4, u, hA4, _, _, HU, hc4⟩ := hr3.get (show q < r3.length by rw [hr3l]; exact hqL)
      rw [hA3] at x2
      subst hA4
      have hpi : (p : Int) < L.size := by omega
      have hqi : (q : Int) < r3.length := by omega
      have m3 := hr3.len.1
      clear hown hcls hov hrok hmrg hmrg2 hv hch hbw hpq hgt hown2 htk hn' hr3 hA3
      cases u with
      | true =>
        have hno := HMRG.out.clash (HCLO.out p q hpL hqL (by rw [HR3.out]; exact HU.out))
        have HNO := hid hno
        clear hno
        go_wp2_with fail
        go_quiet (fail)
        go_wp2_with fail
        go_ret
        exact ⟨false, f, er, rfl, HT.out.below (below_drewN HBW.out _), Chg.of_new (below_drewN HBW.out _), (fun h => by cases h), fun _ => ⟨rfl, rfl, HNO.out⟩⟩
      | false =>
        have hf1 : ∀ j, Calls Try.prog 44 #[.pointer (some ⟨mb2 + 1, 0, none⟩), .int .i64 (p : Int)] (wr.drewN j) fun e w' =>
            e = .returned (.int .i64 (f2 p : Nat)) ∧ Cls encI 99 w' (mb2 + 1) mb2 [(cb, mb, l)] f2 ∧ Chg (fun b => b = mb2) (wr.drewN j) w' ∧ w'.heap.size = (wr.drewN j).heap.size := fun j => find_int (mb2 + 1) mb2 p _ f2 (wr.drewN j) (HCL.out.keep fun _ _ _ => rfl)
        have HF1 := hid hf1
        clear hf1
        go_wp2_with fail
        go_quiet (fail)
        go_wp2_with fail
        refine (HF1.out _).mono ?_
        rintro e w6 ⟨rfl, hcl6, hch6, hs6⟩
        have hch6' : Chg (fun b => b = mb2) wr w6 := (Chg.of_new ((Drawn.n wr _).below wr.heap.size)).trans hch6
        have HCH6 := hid hch6'
        have HCL6 := hid hcl6
        have HOWN6 := hid (own_cls HOWN.out HCL.out hch6')
        have HF2 := hid (find_int (mb2 + 1) mb2 q _ f2 w6 hcl6)
        clear hcl6 hch6 hch6' hc0 hc1 HF1 x2 p0 hc3 hc4
        go_wp2_with fail
        refine HF2.out.mono ?_
        rintro e w7 ⟨rfl, hcl7, hch7, hs7⟩
        have HCL7 := hid hcl7
        have HOWN7 := hid (own_cls HOWN6.out HCL6.out hch7)
        have hch7' : Chg (fun b => b = mb2) wr w7 := HCH6.out.trans hch7
        have HCH7 := hid hch7'
        obtain ⟨a, ha⟩ : ∃ a, a = f2 p := ⟨_, rfl⟩
        obtain ⟨b, hb⟩ : ∃ b, b = f2 q := ⟨_, rfl⟩
        rw [← ha, ← hb]
        have haL : a < L.size := by rw [ha]; exact HMRG.out.fr p hpL
        have hbL : b < L.size := by rw [hb]; exact HMRG.out.fr q hqL
        have HA := hid ha
        have HB := hid hb
        have hs7w := hch7'.size
        have hov7 : OvI (fun _ => False) w.heap.size w7 mr L.size lv er er2 := HOV.out.keep (hch7'.block mr HOV.out.map.lt (by omega)) (hch7'.keeps fun x hx hd e => by
          obtain ⟨_, _, cs, fr, hh⟩ := hd
          obtain ⟨lv', hm⟩ := HCL.out.map0
          exact map_ne_cells hm hh e) (fun _ _ h => h)
        have HOV7 := hid hov7
        have HV7 := hid (hch7'.box HV.out (by omega))
        have HBW7 := hid (HBW.out.trans (hch7'.below (fun x h1 h2 => by omega) HBW.out.size))
        have HCHW7 := hid (HCH.out.trans' hch7' (fun x _ h => .inl h))
        clear hcl7 hch7 hs7 hch7' ha hb hov7 HF2
        by_cases hab : a = b
        · have e1 : ((a : Int) == (b : Int)) = true := by rw [hab]; simp
          have HSK := hid (HMRG.out.skip (show f2 p = f2 q by rw [← HA.out, ← HB.out, hab]))
          clear hab
          go_wp2_with fail
          go_roundg (gk - 1)
          case rel => exact ⟨ts', _, c, f2, er2, lv, by rw [HN.out], by rw [← HN.out]; exact HOWN7.out, HCL7.out, HOV7.out, HROK.out, HSK.out, HV7.out, by rw [← HN.out]; omega, by rw [← HN.out]; omega, HCHW7.out⟩
          all_goals omega
        · have e1 : ((a : Int) == (b : Int)) = false := by simp; omega
          have HAB := hid hab
          clear hab
          obtain ⟨ra, hra⟩ : ∃ ra, ra = er2.getD a [] := ⟨_, rfl⟩
          obtain ⟨rb', hrb⟩ : ∃ rb', rb' = er2.getD b [] := ⟨_, rfl⟩
          have hral : ra.length = L.ins := by rw [hra]; exact HROK.out.rlen a haL
          have hrbl : rb'.length = L.ins := by rw [hrb]; exact HROK.out.rlen b hbL
          have HPW7 := hid (HCH7.out.box HPW.out (by omega))
          have HTW7 := hid (HT.out.below HBW7.out)
          have hcr1 : Calls Try.prog 69 #[.int .i64 (a : Int), .pointer (some ⟨mr + 1, 0, none⟩), .pointer (some ⟨w.heap.size, 0, none⟩)] w7 fun e w' => RowSays (DRw w7 w.heap.size) ra w7 e w' := by
            rw [hra]; exact mrow_any L _ _ _ _ tb cb mb rb mr a Q clash er er2 lv f w w7 w7 _ _ HBW7.out (Below.refl _ _) HV7.out HPW7.out HT.out HOV7.out haL hs
          have hcr2 : ∀ W', Below w7.heap.size w7 W' → Calls Try.prog 69 #[.int .i64 (b : Int), .pointer (some ⟨mr + 1, 0, none⟩), .pointer (some ⟨w.heap.size, 0, none⟩)] W' fun e w' => RowSays (DRw w7 w.heap.size) rb' W' e w' := fun W' hW' => by
            rw [hrb]; exact mrow_any L _ _ _ _ tb cb mb rb mr b Q clash er er2 lv f w w7 W' _ _ HBW7.out hW' HV7.out HPW7.out HT.out HOV7.out hbL hs
          have HCR1 := hid hcr1
          have HCR2 := hid hcr2
          have HRA := hid hra
          have HRB := hid hrb
          have hral1 : ra.length ≤ L.ins := by omega
          have hral2 : L.ins ≤ ra.length := by omega
          have hrbl1 : rb'.length ≤ L.ins := by omega
          have hrbl2 : L.ins ≤ rb'.length := by omega
          clear hra hrb hral hrbl hcr1 hcr2
          go_wp2_with fail
          refine HCR1.out.mono ?_
          rintro e w8 ⟨Ar, cr, rfl, rfl, hrr⟩
          have HRR := hid hrr
          clear hrr
          go_upto_region 12 with (at_builtin; go_must (refine wpList_append_rd _ rfl (.const (.slice none 0 0)) (.tmp 75) 34 rfl w8.heap.size 3 i1 _ 1 8 Try.underlying34 htr hy0 hy1 hy2 rfl (by omega) (.slice none 0 0) 0 [] rfl ⟨rfl, .inl ⟨rfl, rfl⟩⟩ _ Ar ra.length cr _ rfl HRR.out (ints_one _) (by omega) (maxLen_le (by omega)) (Nat.le_refl _) ?_); intro Aj cj w9 hown9 hg9 hat9)
          simp only [Nat.zero_add, List.nil_append] at hown9 ⊢
          have hb9 : Below w8.heap.size w8 w9 := grown_below hg9 (Nat.le_refl _)
          have HB9 := hid hb9
          have HOJ := hid hown9
          have hs9 := hb9.size
          clear hown9 hg9 hat9 hb9
          go_wp2_with fail
          refine (HCR2.out w9 HB9.out).mono ?_
          rintro e w10 ⟨Ab, cb', rfl, rfl, hrr2⟩
          have HRR2 := hid hrr2
          clear hrr2
          have hAj : ∃ jb, Aj = some ⟨jb, 0, none⟩ := by
            rcases HOJ.out.2 with ⟨hv, h0⟩ | ⟨g, cap, cur, hv, _⟩
            · exact absurd h0 (by omega)
            · injection hv with e1 e2 e3
              exact ⟨g, e1⟩
          obtain ⟨jb, rfl⟩ := hAj
          obtain ⟨vj, hvj⟩ : ∃ vj, vj = Value.slice (some ⟨jb, 0, none⟩) ra.length cj := ⟨_, rfl⟩
          have HVJ := hid hvj
          have hjb : ∀ x, some x = vj.ownBlock → w8.heap.size ≤ x := fun x hx => by rw [hvj] at hx; exact (HOJ.out.lt x hx.symm).1
          have HJB := hid hjb
          have HV10 := hid ((HB9.out.block _ (lt_of_block HV7.out)).trans HV7.out)
          have HP10 := hid ((HB9.out.block _ (lt_of_block HPW7.out)).trans HPW7.out)
          have HBW10 := hid (HBW7.out.trans (HB9.out.mono HBW7.out.size))
          have HOWN10 := hid (own_below HOWN7.out HB9.out)
          have hjn : ∀ b < w8.heap.size, some b ≠ vj.ownBlock := fun x hx e => by have := hjb x e; omega
          have hnV : ¬ JV w10 vj (mr + 1 + 1) (mr + 1) := fun h => by
            rcases h with h | h
            · exact hjn (mr + 1) (lt_of_block HV7.out) h
            · omega
          have hnP : ¬ JV w10 vj (mr + 1 + 1) w.heap.size := fun h => by
            rcases h with h | h
            · exact hjn w.heap.size (lt_of_block HPW7.out) h
            · omega
          have hnO : ∀ x, x < w.heap.size → ¬ JV w10 vj (mr + 1 + 1) x := fun x hx h => by
            rcases h with h | h
            · have := HJB.out x h
              have := HBW7.out.size
              omega
            · omega
          have HNV := hid hnV
          have HNP := hid hnP
          have HNO := hid hnO
          have HJN := hid hjn
          have hs810 : w8.heap.size ≤ w10.heap.size := hs9
          clear hvj hjb hjn hnV hnP hnO
          have HPK := hid (And.intro hg1 (And.intro hg2 (And.intro hl (And.intro hne (And.intro hlt2 (And.intro hmb2w (And.intro hw2w (And.intro hs3 (And.intro hcap (And.intro hgb hgl))))))))))
          have HPN := hid (And.intro hn (And.intro hk (And.intro haL (And.intro hbL (And.intro hpL hqL)))))
          have hn65 : n' + 65 ≤ 1000000 := by omega
          clear hg1 hg2 hl hne hlt2 hmb2w hw2w hs3 hcap hgb hgl hn hk haL hbL hpL hqL hrt hmm hmf
          go_wp2_with fail
          go_loopw [10, 81] (fun s t wr => ∃ (x : Nat) (A : Option Addr) (c m : Nat), x ≤ L.ins ∧ t = .int .i64 (x : Int) ∧ m = n' + (newM L ra rb' x).length ∧ s = .slice A m c ∧ wr.ownsRow (mr + 1 + 1) 57 2 (.slice A m c) m ((ts' ++ newM L ra rb' x).flatMap pcells) ∧
            wr.ownsRow w8.heap.size 3 1 (.slice (some ⟨jb, 0, none⟩) ra.length cj) ra.length ((joinR ra rb' L.ins x).map (.int .i64)) ∧ (∀ y, y < x → ¬ (ra.getD y 0 < 0 ∨ rb'.getD y 0 < 0) → mvO L (ra.getD y 0).toNat y = mvO L (rb'.getD y 0).toNat y) ∧ Chg (JV w10 vj (mr + 1 + 1)) w10 wr) (fun _ t _ => L.ins - (intOf t).toNat)
          case atStart => exact ⟨0, _, c, n', Nat.zero_le _, rfl, rfl, rfl, by rw [show newM L ra rb' 0 = [] from rfl, List.append_nil]; exact HOWN10.out, by rw [joinR_zero (by omega)]; exact HOJ.out, (fun y h => absurd h (Nat.not_lt_zero _)), Chg.refl _ _⟩
          case round =>
            obtain ⟨x, A, c, m, hx, rfl, hm, rfl, hown, hoj, hou, hch⟩ := hrel
            have HOW := hid hown
            have HOJ2 := hid hoj
            have HOU := hid hou
            have HCHX := hid hch
            have HM := hid hm
            have hml := newM_len L ra rb' x
            have hbwx : Below w.heap.size w wr := HBW10.out.trans (hch.below HNO.out HBW10.out.size)
            have HBWX := hid hbwx
            have HTX := hid (HT.out.below hbwx)
            have HPX := hid (hch.box HP10.out HNP.out)
            have hszx := hch.size
            have hm2 : m ≤ n' + 64 := by omega
            clear hown hoj hou hch hm hbwx
            by_cases hxl : x < L.ins
            · have hxi : (x : Int) < L.ins := by omega
              have hrr3 : RdI wr (DRw w8 w.heap.size) Ab cb' rb' := HRR2.out.keep (HCHX.out.keeps fun b hb hd => by
                rcases hd.2 with h | ⟨cs, fr, hh⟩
                · exact HNO.out b h
                · exact jv_not ((HB9.out.block b hd.1).trans hh) (by decide) (HJN.out b hd.1))
              obtain ⟨b5, o5, y, hA5, _, _, HY, hc5⟩ := hrr3.get (show x < rb'.length by omega)
              subst hA5
              have hxrb : (x : Int) < rb'.length := by omega
              have hxra : (x : Int) < ra.length := by omega
              have hjl : jb < wr.heap.size := (HOJ2.out.lt jb rfl).2
              have hjc := HOJ2.out.cellAt x (by rw [Nat.mul_one]; omega)
              have hjf : wr.frozen? ⟨jb, x, none⟩ = false := HOJ2.out.frozenAt x
              obtain ⟨xa, hxa⟩ : ∃ xa, xa = ra.getD x 0 := ⟨_, rfl⟩
              have hjv : ((joinR ra rb' L.ins x).map (Value.int .i64))[x]? = some (.int .i64 xa) := by
                have h1 := joinR_get ra rb' (n := L.ins) (k := x) hxl
                rw [if_neg (fun h => by omega), ← hxa] at h1
                have h2 : x < (joinR ra rb' L.ins x).length := by rw [joinR_len]; exact hxl
                rw [List.getElem?_map, List.getElem?_eq_getElem h2]
                rw [List.getD_eq_getElem?_getD, List.getElem?_eq_getElem h2] at h1
                rw [← h1]; rfl
              rw [hjv] at hjc
              have HXA := hid hxa
              have l5 := hrr3.len.1
              clear hrr3 hjv hxa
              by_cases hn1 : xa < 0
              · have HNM := hid (show newM L ra rb' (x + 1) = newM L ra rb' x by rw [newM, if_pos (.inl (by rw [← HXA.out]; exact hn1)), List.append_nil])
                have HJS := hid (joinR_set (ra := ra) (rb := rb') (n := L.ins) (k := x) hxl (by rw [← HXA.out]; exact hn1))
                go_wp2_with fail
                go_roundw
                case rel =>
                  have h5 := HOJ2.out.stored x (.int .i64 y)
                  refine ⟨x + 1, A, c, m, by omega, by go_num, by rw [HNM.out]; exact HM.out, rfl, ?_, ?_, fun y' hy' hc => ?_, HCHX.out.set _ _ (fun _ => .inl (by rw [HVJ.out]; rfl))⟩
                  · rw [HNM.out]; exact ownsRow_setCell_other HOW.out (fun e => own_apart HOJ2.out HOW.out (by decide) (b := jb) rfl e.symm) _
                  · rw [← HJS.out, List.map_set, HY.out]; exact h5.1
                  · rcases Nat.lt_succ_iff_lt_or_eq.1 hy' with h | rfl
                    · exact HOU.out y' h hc
                    · exact absurd (.inl (by rw [← HXA.out]; exact hn1)) hc
                case measure => simp [intOf]; omega
              · have HJK := hid (joinR_skip (ra := ra) (rb := rb') (n := L.ins) (k := x) (by rw [← HXA.out]; exact hn1))
                by_cases hn2 : y < 0
                · have HNM := hid (show newM L ra rb' (x + 1) = newM L ra rb' x by rw [newM, if_pos (.inr (by rw [HY.out]; exact hn2)), List.append_nil])
                  go_wp2_with fail
                  go_roundw
                  case rel =>
                    refine ⟨x + 1, A, c, m, by omega, by go_num, by rw [HNM.out]; exact HM.out, rfl, by rw [HNM.out]; exact HOW.out, by rw [HJK.out]; exact HOJ2.out, fun y' hy' hc => ?_, HCHX.out⟩
                    rcases Nat.lt_succ_iff_lt_or_eq.1 hy' with h | rfl
                    · exact HOU.out y' h hc
                    · exact absurd (.inr (by rw [HY.out]; exact hn2)) hc
                  case measure => simp [intOf]; omega
                · have hnb : ¬ (ra.getD x 0 < 0 ∨ rb'.getD x 0 < 0) := by rw [← HXA.out, HY.out]; omega
                  have haL := HPN.out.2.2.1
                  have hbL := HPN.out.2.2.2.1
                  obtain ⟨j1, ⟨o1, t1⟩, hj1, e1, m1⟩ := HROK.out.ne haL hxl (show ¬ rowE er2 a x < 0 by unfold rowE; rw [← HRA.out, ← HXA.out]; exact hn1)
                  obtain ⟨j2, ⟨o2, t2⟩, hj2, e2, m2⟩ := HROK.out.ne hbL hxl (show ¬ rowE er2 b x < 0 by unfold rowE; rw [← HRB.out, HY.out]; exact hn2)
                  have e1' : xa = (j1 : Int) := by rw [HXA.out, HRA.out]; exact e1
                  have e2' : y = (j2 : Int) := by rw [← HY.out, HRB.out]; exact e2
                  have hrep1 := HROK.out.rep a x j1 haL (by rw [HA.out]; exact HCL7.out.idem p) hxl e1
                  have hrep2 := HROK.out.rep b x j2 hbL (by rw [HB.out]; exact HCL7.out.idem q) hxl e2
                  subst e1'
                  subst e2'
                  have HREP1 := hid hrep1
                  have HREP2 := hid hrep2
                  have HMV1 := hid m1
                  have HMV2 := hid m2
                  obtain ⟨bo1, oo1, Ao1, co1, ro1, hAo, _, _, HRo1, hro1, hco1⟩ := HTX.out.out.get (show j1 < (outsL L).length by rw [outsL_len]; exact hj1)
                  obtain ⟨bo2, oo2, Ao2, co2, ro2, hAo2, _, _, HRo2, hro2, hco2⟩ := HTX.out.out.get (show j2 < (outsL L).length by rw [outsL_len]; exact hj2)
                  rw [hAo] at hAo2
                  injection hAo2 with hAo2
                  injection hAo2 with hbo hoo
                  subst hbo
                  subst hoo
                  obtain ⟨bn1, on1, An1, cn1, rn1, hAn, hbnD, hbn1, HRn1, hrn1, hcn1⟩ := (HT.out.next.old.keep (Keeps.of_below HBWX.out fun _ h => h)).get (show j1 < (nextsL L).length by rw [nextsL_len]; exact hj1)
                  obtain ⟨bn2, on2, An2, cn2, rn2, hAn2, _, _, HRn2, hrn2, hcn2⟩ := (HT.out.next.old.keep (Keeps.of_below HBWX.out fun _ h => h)).get (show j2 < (nextsL L).length by rw [nextsL_len]; exact hj2)
                  rw [hAn] at hAn2
                  injection hAn2 with hAn2
                  injection hAn2 with hbn hon
                  subst hbn
                  subst hon
                  have ho1 := HRo1.out
                  have ho2 := HRo2.out
                  have hn1' := HRn1.out
                  have hn2' := HRn2.out
                  rw [outsL_row L hj1] at ho1
                  rw [outsL_row L hj2] at ho2
                  rw [nextsL_row L hj1] at hn1'
                  rw [nextsL_row L hj2] at hn2'
                  have q1 : ro1.length = L.ins := by rw [← ho1, rowf_len]
                  have q2 : ro2.length = L.ins := by rw [← ho2, rowf_len]
                  have q3 : rn1.length = L.ins := by rw [← hn1', rowf_len]
                  have q4 : rn2.length = L.ins := by rw [← hn2', rowf_len]
                  obtain ⟨c1b, c1o, v1, hB1, _, _, HV1, hd1⟩ := hro1.get (show x < ro1.length by omega)
                  obtain ⟨c2b, c2o, v2, hB2, _, _, HV2, hd2⟩ := hro2.get (show x < ro2.length by omega)
                  obtain ⟨c3b, c3o, v3, hB3, hc3D, hc3l, HV3', hd3⟩ := hrn1.get (show x < rn1.length by omega)
                  obtain ⟨c4b, c4o, v4, hB4, hc4D, hc4l, HV4, hd4⟩ := hrn2.get (show x < rn2.length by omega)
                  subst hB1
                  subst hB2
                  subst hB3
                  subst hB4
                  have w1 : v1 = o1 := by rw [← HV1.out, ← ho1, rowf_get _ hxl, (mvT_yes m1).1]
                  have w2' : v2 = o2 := by rw [← HV2.out, ← ho2, rowf_get _ hxl, (mvT_yes m2).1]
                  have w3 : v3 = (t1 : Int) := by rw [← HV3'.out, ← hn1', rowf_get _ hxl, (mvT_yes m1).2]
                  have w4 : v4 = (t2 : Int) := by rw [← HV4.out, ← hn2', rowf_get _ hxl, (mvT_yes m2).2]
                  subst w1
                  subst w2'
                  subst w3
                  subst w4
                  have x0 := block_cell HTX.out.box (i := 0) rfl
                  have x1 := block_cell HTX.out.box (i := 1) rfl
                  rw [hAo] at x0
                  rw [hAn] at x1
                  have p0 := block_cell HPX.out (i := 0) rfl
                  have k1 := hro1.len.1
                  have k2 := hro2.len.1
                  have k3 := hrn1.len.1
                  have k4 := hrn2.len.1
                  have ji1 : (j1 : Int) < L.size := by omega
                  have ji2 : (j2 : Int) < L.size := by omega
                  have xi1 : (x : Int) < ro1.length := by omega
                  have xi2 : (x : Int) < ro2.length := by omega
                  have xi3 : (x : Int) < rn1.length := by omega
                  have xi4 : (x : Int) < rn2.length := by omega
                  have HNB := hid hnb
                  have HE1 := hid e1
                  have HE2 := hid e2
                  clear hnb haL hbL e1 e2 hrep1 hrep2 m1 m2 hAo hAn ho1 ho2 hn1' hn2' q1 q2 q3 q4 hro1 hro2 hrn1 hrn2
                  by_cases hou : v1 = v2
                  · have n3 : (v1 != v2) = false := by simp [hou]
                    have HOUE := hid hou
                    have htbl : tb < w.heap.size := HPK.out.2.2.1.1
                    have hmw := HPK.out.2.2.2.2.2.2.1
                    have HS6 := hid (show wr.cell? ⟨w.heap.size, 0, none⟩ = some (.pointer (some ⟨tb, 0, none⟩)) ∧ wr.cell? ⟨tb, 1, none⟩ = some (.slice (some ⟨bn1, on1, none⟩) L.size Q.cn) ∧ wr.cell? ⟨bn1, on1 + j1, none⟩ = some (.slice (some ⟨c3b, c3o, none⟩) rn1.length cn1) ∧
                        wr.cell? ⟨bn1, on1 + j2, none⟩ = some (.slice (some ⟨c4b, c4o, none⟩) rn2.length cn2) ∧ wr.cell? ⟨c3b, c3o + x, none⟩ = some (.int .i64 (t1 : Int)) ∧ wr.cell? ⟨c4b, c4o + x, none⟩ = some (.int .i64 (t2 : Int)) from ⟨p0, x1, hcn1, hcn2, hd3, hd4⟩)
                    have hbwx2 : w.heap.size ≤ wr.heap.size := HBWX.out.size
                    have hmrw : mr + 1 + 1 ≤ wr.heap.size := by have := lt_of_block HV10.out; omega
                    clear hou
                    go_wp2_with fail
                    go_quiet (fail)
                    go_wp2_with fail
                    go_region_held3 (fun w' => w'.cell? ⟨w.heap.size, 0, none⟩ = some (.pointer (some ⟨tb, 0, none⟩)) ∧ w'.cell? ⟨tb, 1, none⟩ = some (.slice (some ⟨bn1, on1, none⟩) L.size Q.cn) ∧ w'.cell? ⟨bn1, on1 + j1, none⟩ = some (.slice (some ⟨c3b, c3o, none⟩) rn1.length cn1) ∧
                        w'.cell? ⟨bn1, on1 + j2, none⟩ = some (.slice (some ⟨c4b, c4o, none⟩) rn2.length cn2) ∧ w'.cell? ⟨c3b, c3o + x, none⟩ = some (.int .i64 (t1 : Int)) ∧ w'.cell? ⟨c4b, c4o + x, none⟩ = some (.int .i64 (t2 : Int)))
                      (first
                        | go_keep
                        | exact cells6_below HS6.out hb11 (by show w.heap.size < _; omega) (by show tb < _; omega) (by show bn1 < _; omega) (by show bn1 < _; omega) (by show c3b < _; omega) (by show c4b < _; omega))
                      ((refine step_append_rd _ (by rfl) _ _ 58 (by rfl) (mr + 1 + 1) 57 i0 _ 2 16 Try.underlying58 hti hz0 hz1 hz2 rfl (by omega) (.slice A m c) m _ (by rfl) (own_below HOW.out (by first | exact below_da _ _ _ | exact below_ad _ _ _)) _ (some ⟨wr.heap.size, 0, none⟩) 1 1 _ (by rfl) (Rd.fresh (D := fun _ => True) rfl trivial (by simp) (by omega)) (by simp [Value.oneCell']) (by omega) (maxLen_le (by omega)) (by simp; omega) ?_
                        intro A11 c11 w11 hown11 hg11 hat11
                        have hb11 : Below (mr + 1 + 1) wr w11 := Below.grown ((show Below wr.heap.size wr _ from by first | exact below_da _ _ _ | exact below_ad _ _ _).mono hmrw) hg11 (by simp; omega) (fun k hk => (HOW.out.lt k hk).1)))
                    all_goals
                      have hch11 := (HCHX.out.trans (Chg.of_new (show Below wr.heap.size wr _ from by first | exact below_da _ _ _ | exact below_ad _ _ _))).grown hg11 (fun j e hj => jv_pairs HOW.out (Nat.le_refl _) HCHX.out e hj)
                      have hoj11 := own_agree (W := w11) HOJ2.out (fun z e => (hg11.block z (by have := (HOJ2.out.lt z e.symm).2; simp; omega) (own_apart HOJ2.out HOW.out (by decide) e)).trans ((show Below wr.heap.size wr _ from by first | exact below_da _ _ _ | exact below_ad _ _ _).block z (HOJ2.out.lt z e.symm).2))
                      have hnm : newM L ra rb' (x + 1) = newM L ra rb' x ++ [(t1, t2)] := by
                        rw [newM, if_neg HNB.out]
                        have z1 : ra.getD x 0 = (j1 : Int) := HXA.out.symm
                        unfold tgM
                        rw [z1, HY.out, Int.toNat_natCast, Int.toNat_natCast, HMV1.out, HMV2.out]; rfl
                      have HCH11 := hid hch11
                      have HOJ11 := hid hoj11
                      have HOWN11 := hid hown11
                      have HNM := hid hnm
                      clear hch11 hoj11 hown11 hnm hg11 hat11 hb11 p0 x0 x1 hco1 hco2 hcn1 hcn2 hd1 hd2 hd3 hd4
                      go_wp2_with fail
                      go_roundw
                      case rel =>
                        refine ⟨x + 1, A11, c11, m + 1, by omega, by go_num, by rw [HNM.out, List.length_append, HM.out]; rfl, rfl, ?_, by rw [HJK.out]; exact HOJ11.out, fun y' hy' hc => ?_, HCH11.out⟩
                        · rw [HNM.out, ← List.append_assoc, List.flatMap_append]; exact HOWN11.out
                        · rcases Nat.lt_succ_iff_lt_or_eq.1 hy' with h | rfl
                          · exact HOU.out y' h hc
                          · rw [← HXA.out, HY.out, Int.toNat_natCast, Int.toNat_natCast, (mvT_yes HMV1.out).1, (mvT_yes HMV2.out).1]; exact HOUE.out
                      case measure => simp [intOf]; omega
                  · have n3 : (v1 != v2) = true := by simp [hou]
                    have hno := HMRG.out.no hj1 hj2 (HREP1.out.trans HA.out) (HREP2.out.trans HB.out) hxl HMV1.out HMV2.out hou
                    have HNO' := hid hno
                    clear hou hno
                    go_wp2_with fail
                    go_quiet (fail)
                    go_wp2_with fail
                    go_ret
                    exact ⟨false, f, er, rfl, HT.out.below (below_drewN HBWX.out _), Chg.of_new (below_drewN HBWX.out _), (fun h => by cases h), fun _ => ⟨rfl, rfl, HNO'.out⟩⟩
            · have hxe : x = L.ins := by omega
              obtain ⟨hg1, hg2, hl, hne, hlt2, hmb2w, hw2w, hs3, hcap, hgb, hgl⟩ := HPK.out
              obtain ⟨hn, hk, haL, hbL, hpL, hqL⟩ := HPN.out
              have haa : f2 a = a := by rw [HA.out]; exact HCL7.out.idem p
              have hbb : f2 b = b := by rw [HB.out]; exact HCL7.out.idem q
              have hcl10 := HCL7.out.below HB9.out
              have hclx : Cls encI 99 wr (mb2 + 1) mb2 [(cb, mb, l)] f2 := hcl10.keep fun z hz hzl => HCHX.out.block z hzl (by
                rcases hz with rfl | rfl | hz
                · obtain ⟨c', hh⟩ := hcl10.cell0
                  exact jv_not hh (by decide) (HJN.out _ HCL7.out.lt.1)
                · obtain ⟨lv', hm⟩ := hcl10.map0
                  exact jv_not_map hm (HJN.out _ HCL7.out.lt.2)
                · refine HNO.out z ?_
                  obtain ⟨p', hp', hz⟩ := hz
                  rw [List.mem_singleton] at hp'
                  subst hp'
                  rcases hz with rfl | rfl
                  · exact hl.2.1
                  · exact hl.2.2.1)
              have hovx : OvI (fun z => w8.heap.size ≤ z) w.heap.size wr mr L.size lv er er2 := by
                have h8 : OvI (fun z => w8.heap.size ≤ z) w.heap.size w8 mr L.size lv er er2 := HOV7.out.keep rfl (Keeps.refl _ _) (fun z hz h => by omega)
                have h10 := h8.below HB9.out
                exact h10.keep (HCHX.out.block mr h10.map.lt (jv_not_map h10.map (HJN.out _ HOV7.out.map.lt))) (HCHX.out.keeps fun z hz hd => by
                  obtain ⟨_, h2, cs, fr, hh⟩ := hd
                  exact jv_not hh (by decide) (HJN.out z (by omega))) (fun _ _ h => h)
              have hvx := HCHX.out.box HV10.out HNV.out
              have HCLX := hid hclx
              have HOVX := hid hovx
              have HVX := hid hvx
              have HUN := hid (unite_int (mb2 + 1) mb2 a b _ f2 wr hclx haa hbb HAB.out)
              have HAA := hid haa
              have HBB := hid hbb
              have hsucc := HROK.out.succs haL hbL haa hbb (fun y' hy' hc => by
                rw [← HRA.out, ← HRB.out] at hc ⊢
                exact HOU.out y' (by omega) hc)
              rw [← HRA.out, ← HRB.out] at hsucc
              have HMU := hid (HMRG.out.unite HLO.out HA.out.symm HB.out.symm haa hbb HAB.out hsucc)
              have hjoin := HROK.out.join haL hbL haa hbb HAB.out
              rw [← HRA.out, ← HRB.out] at hjoin
              have HJO := hid hjoin
              have hrl := roots_less haa hbb HAB.out hbL
              have HXE := hid hxe
              clear hcl10 hclx hovx hvx haa hbb hsucc hjoin hxe
              go_wp2_with fail
              refine HUN.out.mono ?_
              rintro e w12 ⟨rfl, hcl12, hch12, hs12⟩
              have hov12 : OvI (fun z => w8.heap.size ≤ z) w.heap.size w12 mr L.size lv er er2 := HOVX.out.keep (hch12.block mr HOVX.out.map.lt (by omega)) (hch12.keeps fun z hz hd e => by
                obtain ⟨_, _, cs, fr, hh⟩ := hd
                obtain ⟨lv', hm⟩ := HCLX.out.map0
                exact map_ne_cells hm hh e) (fun _ _ h => h)
              have hv12 := hch12.box HVX.out (by omega)
              have g12 := block_cell hv12 (i := 0) rfl
              obtain ⟨w13, hrun, hm13, hg13, hs13⟩ := run_update_b int_key (P := Try.prog) (T := 105) (E := 34) (by kernel_rfl) hov12.map a (.slice (some ⟨jb, 0, none⟩) ra.length cj)
              have hrun' : (Instr.mapUpdate 105 (.map (some mr)) (.int .i64 (a : Int)) (.slice (some ⟨jb, 0, none⟩) ra.length cj)).run Try.prog w12 = .ok () w13 := hrun
              have hjl' : (joinR ra rb' L.ins L.ins).length = ra.length := by rw [joinR_len]; omega
              have hoj := HOJ2.out
              rw [HXE.out] at hoj
              have hoj12 := own_agree (W := w12) hoj (fun z e => hch12.block z (hoj.lt z e.symm).2 (fun e2 => by
                obtain ⟨lv', hm⟩ := HCLX.out.map0
                exact own_not_map hoj hm (by rw [← e, e2])))
              have hoj13 := own_agree (W := w13) hoj12 (fun z e => hg13.block z (hoj12.lt z e.symm).2 (fun e2 => own_not_map hoj12 hov12.map (by rw [← e, e2])))
              have how12 := own_agree (W := w12) HOW.out (fun z e => hch12.block z (HOW.out.lt z e.symm).2 (fun e2 => by
                obtain ⟨lv', hm⟩ := HCLX.out.map0
                exact own_not_map HOW.out hm (by rw [← e, e2])))
              have how13 := own_agree (W := w13) how12 (fun z e => hg13.block z (how12.lt z e.symm).2 (fun e2 => own_not_map how12 hov12.map (by rw [← e, e2])))
              have hput := hov12.put (a := a) (A := some ⟨jb, 0, none⟩) (c := cj) (r := joinR ra rb' L.ins L.ins) (w' := w13) hg13 (by rw [hjl']; exact hm13) haL (IBX.own (n := ra.length) (B' := w8.heap.size) HBW7.out.size (fun _ _ h => h) hoj13 hjl'.symm (by omega))
              have hcl13 : Cls encI 99 w13 (mb2 + 1) mb2 [(cb, mb, l)] (joinF f2 a b) := hcl12.keep fun z hz hzl => hg13.block z hzl (fun e => by
                injection e with e
                rcases hz with h | h | hz
                · obtain ⟨c', hh⟩ := hcl12.cell0
                  rw [← h] at hh
                  exact map_ne_cells hov12.map hh e
                · omega
                · obtain ⟨p', hp', hz⟩ := hz
                  rw [List.mem_singleton] at hp'
                  subst hp'
                  rcases hz with h | h
                  · have h' : z = cb := h
                    have := hl.2.1; omega
                  · have h' : z = mb := h
                    have := hl.2.2.1; omega)
              have hv13 := (hg13.block _ (lt_of_block hv12) (by simp)).trans hv12
              have hmr8 := lt_of_block HV7.out
              have hch13 : Chg (fun z => z = mb2 ∨ z = mr ∨ mr + 1 + 1 ≤ z) W3 w13 := (((HCHW7.out.trans (Chg.of_new HB9.out)).trans' HCHX.out (fun z hz h => by
                rcases h with h | h
                · have := HJB.out z h
                  exact .inr (.inr (by omega))
                · exact .inr (.inr h.1))).trans' hch12 (fun z _ h => .inl h)).grown hg13 (fun z e _ => .inr (.inl (Option.some.inj e).symm))
              have HPUT := hid hput
              have HCL13 := hid hcl13
              have HV13 := hid hv13
              have HCH13 := hid hch13
              have HOW13 := hid how13
              have HJL := hid hjl'
              clear hrun hm13 hg13 hs13 hoj hoj12 hoj13 how12 how13 hput hcl13 hv13 hch13 hcl12 hch12 hov12 hv12 hjl'
              go_wp2_with fail
              go_roundg (gk - 1)
              case rel =>
                have hlen : (ts' ++ newM L ra rb' L.ins).length = m := by rw [List.length_append, HM.out, HN.out, HXE.out]
                have hnl := newM_len L ra rb' L.ins
                have hml2 : m ≤ n' + 64 := by rw [HM.out, HXE.out]; omega
                refine ⟨ts' ++ newM L ra rb' L.ins, A, c, joinF f2 a b, _, _, by rw [hlen], by rw [hlen]; have := HOW13.out; rw [HXE.out] at this; exact this, HCL13.out, by have := HPUT.out; rw [HJL.out] at this; exact this, HJO.out, HMU.out.perm (fun r => by rw [List.mem_append, List.mem_append]; exact or_comm), HV13.out, by rw [hlen]; omega, by rw [hlen]; omega, HCH13.out⟩
              all_goals omega
end Go.Proofs.Ytcmhginhfhiolaa
