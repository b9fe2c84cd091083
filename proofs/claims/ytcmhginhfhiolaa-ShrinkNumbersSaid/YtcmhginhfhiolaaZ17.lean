/-
  Walk of Same of package shrink.
-/
import Derived.Test.YtcmhginhfhiolaaZ16
import Derived.Test.YtcmhginhfhiolaaZ08
import Derived.Test.YtcmhginhfhiolaaZ14
set_option linter.unusedVariables false
set_option linter.unusedSimpArgs false
namespace Go.Proofs.Ytcmhginhfhiolaa
open Go.RowKit
attribute [local go_sem] cell_alloc_old

set_option maxHeartbeats 2000000 in
theorem slequal_any {D E : Dom} (A B : Option Addr) (c d : Nat) (xs ys : List Int) (w : World) (hx : RdI w D A c xs) (hy : RdI w E B d ys) :
    Calls Try.prog 37 #[.slice A xs.length c, .slice B ys.length d] w fun e w' => e = .returned (.bool (decide (xs = ys))) ∧ Drawn w w' := by
  have hm := hx.len.1
  have HXS := hid hx
  have HYS := hid hy
  clear hx hy
  by_cases hn : xs.length = ys.length
  · have hne : ((xs.length : Int) != (ys.length : Int)) = false := by simp [hn]
    have HN := hid hn
    have hle : ys.length ≤ xs.length := by omega
    clear hn
    go_enter Try.func37, Try.ntmps37
    go_wp2
    go_loopw [13] (fun t wr => ∃ k : Nat, k ≤ xs.length ∧ t = .int .i64 k ∧ SoFar k (fun j => decide (xs.getD j 0 = ys.getD j 0)) ∧ Drawn w wr) (fun t _ => xs.length - (intOf t).toNat)
    case atStart => exact ⟨0, Nat.zero_le _, rfl, SoFar.zero _, Drawn.refl w⟩
    case round =>
      obtain ⟨k, hk, rfl, hb, hd⟩ := hrel
      have HB := hid hb
      clear hb
      by_cases hlt : k < xs.length
      · have hlt2 : k < ys.length := by have := HN.out; omega
        obtain ⟨b, o, x, rfl, _, _, HX, hc⟩ := (HXS.out.keep hd.keeps).get hlt
        obtain ⟨b', o', y, rfl, _, _, HY, hc'⟩ := (HYS.out.keep hd.keeps).get hlt2
        go_wp2
        go_quiet (fail)
        by_cases he : x = y
        · have hne : (x != y) = false := by simp [he]
          have HE := hid he
          clear he
          go_wp2
          go_roundw
          case rel => exact ⟨k + 1, by omega, by go_num, HB.out.succ (by rw [HX.out, HY.out]; simp [HE.out]), hd.drewN _⟩
          case measure => simp [intOf]; omega
        · have hne : (x != y) = true := by simp [he]
          have HE := hid he
          clear he
          go_wp2
          go_ret
          refine ⟨ret_bool ?_, hd.drewN _⟩
          refine (decide_eq_false fun h => HE.out ?_).symm
          rw [← HX.out, ← HY.out, h]
      · go_wp2
        go_ret
        refine ⟨ret_bool ?_, hd⟩
        refine (decide_eq_true ?_).symm
        refine List.ext_getElem HN.out fun j h1 h2 => ?_
        have := HB.out j (by omega)
        simpa [List.getD, h1, h2] using this
  · have hne : ((xs.length : Int) != (ys.length : Int)) = true := bne_iff_ne.2 (by omega)
    have HN := hid hn
    clear hn
    go_enter Try.func37, Try.ntmps37
    go_wp2
    go_ret
    exact ⟨ret_bool (decide_eq_false fun h => HN.out (by rw [h])).symm, Drawn.refl w⟩

theorem own_not_map {w : World} {base n size mb : Nat} {e : TypeId} {v : Value} {xs : List Value} {enc : Nat → Value} {lv : List (Nat × Value)} (h : w.ownsRow base e size v n xs) (hm : MapIs enc w mb lv) : v.ownBlock ≠ some mb := by
  rcases h.2 with ⟨rfl, _⟩ | ⟨g, cap, cur, rfl, _, hh, _⟩
  · simp [Value.ownBlock]
  · intro he
    injection he with he
    exact map_ne_cells hm hh he
theorem Cls.map {enc : Nat → Value} {T : TypeId} {w : World} {cb mb : Nat} {rest : Chn} {f : Nat → Nat} (h : Cls enc T w cb mb rest f) : ∃ lv, MapIs enc w mb lv := by
  obtain ⟨l, ht, ⟨_, c', h1, h2, _⟩, _⟩ := h
  exact ⟨_, h2⟩
theorem Cls.cell {enc : Nat → Value} {T : TypeId} {w : World} {cb mb : Nat} {rest : Chn} {f : Nat → Nat} (h : Cls enc T w cb mb rest f) : ∃ c', w.heap[cb]? = some (.cells #[.map (some mb), .pointer c'] T (0, 0)) := by
  obtain ⟨l, ht, ⟨_, c', h1, h2, _⟩, _⟩ := h
  exact ⟨_, h1⟩
/-- A row beside the division: one turns, the other stays. -/
theorem own_cls {w w' : World} {base n size cb mb : Nat} {e : TypeId} {v : Value} {xs : List Value} {enc : Nat → Value} {T : TypeId} {rest : Chn} {f : Nat → Nat} (h : w.ownsRow base e size v n xs) (hc : Cls enc T w cb mb rest f) (hg : Chg (fun b => b = mb) w w') : w'.ownsRow base e size v n xs :=
  own_agree h fun b hb => hg.block b (h.lt b hb.symm).2 fun hbm => by
    obtain ⟨lv, hm⟩ := hc.map
    exact own_not_map h hm (by rw [← hb, hbm])
theorem Cls.row {w w' : World} {base n size cb mb : Nat} {e : TypeId} {v : Value} {xs : List Value} {enc : Nat → Value} {T : TypeId} {f : Nat → Nat} (hc : Cls enc T w cb mb [] f) (h : w.ownsRow base e size v n xs) (hne : e ≠ T) (hg : w.grownBy w' v.ownBlock) : Cls enc T w' cb mb [] f :=
  hc.keep fun b hb hl => hg.block b hl fun he => by
    rcases hb with rfl | rfl | hb
    · obtain ⟨c', hh⟩ := hc.cell
      exact own_ne h hh hne he.symm
    · obtain ⟨lv, hm⟩ := hc.map
      exact own_not_map h hm he.symm
    · obtain ⟨p, hp, _⟩ := hb
      cases hp
theorem own_cap {w : World} {base n c : Nat} {e : TypeId} {size : Nat} {A : Option Addr} {xs : List Value} (h : w.ownsRow base e size (.slice A n c) n xs) : n ≤ c ∧ c ≤ 9223372036854775807 := by
  rcases h.2 with ⟨hv, h0⟩ | ⟨g, cap, cur, hv, hb, hh, hn, hc, hsz, ht⟩
  · injection hv with e1 e2 e3
    omega
  · injection hv with e1 e2 e3
    subst e3
    exact ⟨hn, hc⟩
theorem own_take {w : World} {base n k c : Nat} {e : TypeId} {size : Nat} {A : Option Addr} {xs : List Value} (h : w.ownsRow base e size (.slice A n c) n xs) (hk : k ≤ n) : w.ownsRow base e size (.slice A k c) k (xs.take (k * size)) := by
  have h1 := h.1
  refine ⟨by rw [List.length_take, h1]; exact Nat.min_eq_left (Nat.mul_le_mul_right _ hk), ?_⟩
  rcases h.2 with ⟨hv, h0⟩ | ⟨g, cap, cur, hv, hb, hh, hn, hc, hsz, ht⟩
  · injection hv with e1 e2 e3
    subst e1 e3
    obtain rfl : k = 0 := by omega
    exact .inl ⟨rfl, rfl⟩
  · injection hv with e1 e2 e3
    subst e1 e3
    refine .inr ⟨g, c, cur, rfl, hb, hh, by omega, hc, hsz, ?_⟩
    rw [← ht, List.take_take, Nat.min_eq_left (Nat.mul_le_mul_right _ hk)]

set_option maxRecDepth 100000 in
set_option maxHeartbeats 8000000 in
theorem same_any {D E : Dom} (va vb : Value) (a b : Mly) (w : World) (ha : RdM w D va a) (hb : RdM w E vb b) :
    Calls Try.prog 16 #[va, vb] w fun e w' => (∃ r : Bool, e = .returned (.bool r) ∧ (r = true ↔ SameP a b)) ∧ Below w.heap.size w w' := by
  obtain ⟨i0, hti, hz0, hz1, hz2⟩ := info_parts two_info
  have HVA := hid ha.old
  have HVB := hid hb.old
  obtain ⟨Ao, co, An, cn, rfl, ho, hn⟩ := ha
  obtain ⟨Bo, bo, Bn, bn, rfl, ko, kn⟩ := hb
  have HAO := hid ho.old
  have HAN := hid hn.old
  have HBO := hid ko.old
  have HBN := hid kn.old
  have l1 := ho.len.1
  have l2 := hn.len.1
  have l3 := ko.len.1
  have l4 := kn.len.1
  clear ho hn ko kn
  go_enter Try.func16, Try.ntmps16
  go_upto_region 1 with (fail)
  refine wp_gen fun W1 hW1 => ?_
  have hb1 : Below w.heap.size w W1 := by rw [hW1]; go_grown
  have hx1 : W1.heap[w.heap.size]? = some (.cells #[.int .i64 a.ins, .int .i64 a.outs, .int .i64 a.start, .slice Ao a.out.length co, .slice An a.next.length cn] 24 (0, 0)) := by
    rw [hW1]; (repeat (first | (refine at_new _ _ _ ?_; (simp only [World.size_alloc]; done)) | (refine (at_old _ _ _ ?_).trans ?_; (simp only [World.size_alloc]; omega))))
  have hy1 : W1.heap[w.heap.size + 1]? = some (.cells #[.int .i64 b.ins, .int .i64 b.outs, .int .i64 b.start, .slice Bo b.out.length bo, .slice Bn b.next.length bn] 24 (0, 0)) := by
    rw [hW1]; (repeat (first | (refine at_new _ _ _ ?_; (simp only [World.size_alloc]; done)) | (refine (at_old _ _ _ ?_).trans ?_; (simp only [World.size_alloc]; omega))))
  have HB1 := hid hb1
  have HX1 := hid hx1
  have HY1 := hid hy1
  clear hW1 hb1 hx1 hy1
  have x0 := block_cell HX1.out (i := 0) rfl
  have x1 := block_cell HX1.out (i := 1) rfl
  have x2 := block_cell HX1.out (i := 2) rfl
  have x3 := block_cell HX1.out (i := 3) rfl
  have x4 := block_cell HX1.out (i := 4) rfl
  have y0 := block_cell HY1.out (i := 0) rfl
  have y1 := block_cell HY1.out (i := 1) rfl
  have y2 := block_cell HY1.out (i := 2) rfl
  have y3 := block_cell HY1.out (i := 3) rfl
  have y4 := block_cell HY1.out (i := 4) rfl
  go_wp2_with fail
  refine (mvalid_any _ a W1 (HVA.out.keep (Keeps.of_below HB1.out (fun _ h => h)))).mono ?_
  rintro e w2 ⟨rfl, hb2⟩
  have HB2 := hid (HB1.out.trans (hb2.mono HB1.out.size))
  have HX2 := hid ((hb2.block _ (lt_of_block HX1.out)).trans HX1.out)
  have HY2 := hid ((hb2.block _ (lt_of_block HY1.out)).trans HY1.out)
  clear hb2 x0 x1 x2 x3 x4 y0 y1 y2 y3 y4
  have x0 := block_cell HX2.out (i := 0) rfl
  have x1 := block_cell HX2.out (i := 1) rfl
  have x2 := block_cell HX2.out (i := 2) rfl
  have x3 := block_cell HX2.out (i := 3) rfl
  have x4 := block_cell HX2.out (i := 4) rfl
  have y0 := block_cell HY2.out (i := 0) rfl
  have y1 := block_cell HY2.out (i := 1) rfl
  have y2 := block_cell HY2.out (i := 2) rfl
  have y3 := block_cell HY2.out (i := 3) rfl
  have y4 := block_cell HY2.out (i := 4) rfl
  cases hma : mealyB a
  · have HMA := hid hma
    clear hma
    go_wp2_with fail
    go_ret
    exact ⟨⟨false, rfl, (fun h => by cases h), fun h => by have := h.1; rw [HMA.out] at this; cases this⟩, HB2.out⟩
  have HMA := hid hma
  clear hma
  go_wp2_with fail
  refine (mvalid_any _ b w2 (HVB.out.keep (Keeps.of_below HB2.out (fun _ h => h)))).mono ?_
  rintro e w3 ⟨rfl, hb3⟩
  have HB3 := hid (HB2.out.trans (hb3.mono HB2.out.size))
  have HX3 := hid ((hb3.block _ (lt_of_block HX2.out)).trans HX2.out)
  have HY3 := hid ((hb3.block _ (lt_of_block HY2.out)).trans HY2.out)
  clear hb3 x0 x1 x2 x3 x4 y0 y1 y2 y3 y4
  have x0 := block_cell HX3.out (i := 0) rfl
  have x1 := block_cell HX3.out (i := 1) rfl
  have x2 := block_cell HX3.out (i := 2) rfl
  have x3 := block_cell HX3.out (i := 3) rfl
  have x4 := block_cell HX3.out (i := 4) rfl
  have y0 := block_cell HY3.out (i := 0) rfl
  have y1 := block_cell HY3.out (i := 1) rfl
  have y2 := block_cell HY3.out (i := 2) rfl
  have y3 := block_cell HY3.out (i := 3) rfl
  have y4 := block_cell HY3.out (i := 4) rfl
  cases hmb : mealyB b
  · have HMB := hid hmb
    clear hmb
    go_wp2_with fail
    go_ret
    exact ⟨⟨false, rfl, (fun h => by cases h), fun h => by have := h.2.1; rw [HMB.out] at this; cases this⟩, HB3.out⟩
  have HMB := hid hmb
  clear hmb
  by_cases hi : a.ins = b.ins
  case neg =>
    have n1 : (a.ins != b.ins) = true := by simp [hi]
    have HI := hid hi
    clear hi
    go_wp2_with fail
    go_ret
    exact ⟨⟨false, rfl, (fun h => by cases h), fun h => absurd h.2.2.1 HI.out⟩, HB3.out⟩
  have n1 : (a.ins != b.ins) = false := by simp [hi]
  have HI := hid hi
  clear hi
  by_cases hou : a.outs = b.outs
  case neg =>
    have n2 : (a.outs != b.outs) = true := by simp [hou]
    have HU := hid hou
    clear hou
    go_wp2_with fail
    go_ret
    exact ⟨⟨false, rfl, (fun h => by cases h), fun h => absurd h.2.2.2.1 HU.out⟩, HB3.out⟩
  have n2 : (a.outs != b.outs) = false := by simp [hou]
  have HU := hid hou
  clear hou
  have hSa := sized_of HMA.out
  have hSb := sized_of HMB.out
  have HSA := hid hSa
  have HSB := hid hSb
  obtain ⟨A, hA⟩ : ∃ A, A = wholeM a := ⟨_, rfl⟩
  obtain ⟨B, hB⟩ : ∃ B, B = wholeM b := ⟨_, rfl⟩
  have hokA : A.Ok := by rw [hA]; exact whole_ok hSa
  have hokB : B.Ok := by rw [hB]; exact whole_ok hSb
  have HOKA := hid hokA
  have HOKB := hid hokB
  have HA := hid hA
  have HB := hid hB
  have hsa : A.size = a.out.length := by rw [hA]; rfl
  have hsb : B.size = b.out.length := by rw [hB]; rfl
  have hia : a.ins = (A.ins : Int) := by rw [hA]; exact (whole_start hSa).2
  have hib : B.ins = A.ins := by
    rw [hA, hB]
    show b.ins.toNat = a.ins.toNat
    rw [HI.out]
  have hsta : a.start = (A.start : Int) := by rw [hA]; exact (whole_start hSa).1
  have hstb : b.start = (B.start : Int) := by rw [hB]; exact (whole_start hSb).1
  have HSSA := hid hsa
  have HSSB := hid hsb
  have HIA := hid hia
  have HIB := hid hib
  have HSTA := hid hsta
  have HSTB := hid hstb
  have hprod : A.size * B.size ≤ 3000 * 3000 := Nat.mul_le_mul (by have := hSa.n2; omega) (by have := hSb.n2; omega)
  have i2 := hSa.i2
  have i1 := hSa.i1
  have hsame : Hid (Sim A B A.start B.start ↔ SameP a b) := hid (by
    rw [hA, hB]
    exact ⟨fun h => ⟨HMA.out, HMB.out, HI.out, HU.out, h⟩, fun h => h.2.2.2.2⟩)
  clear hSa hSb hA hB hokA hokB hsa hsb hia hib hsta hstb
  go_wp2_with fail
  refine (newClasses_state w3).mono ?_
  rintro e w4 ⟨rfl, hcls, hb4⟩
  obtain ⟨mb, hmb⟩ : ∃ mb, mb = w3.heap.size := ⟨_, rfl⟩
  rw [← hmb] at hcls ⊢
  have HCLS := hid hcls
  have HB4 := hid hb4
  have HX4 := hid ((hb4.block _ (lt_of_block HX3.out)).trans HX3.out)
  have HY4 := hid ((hb4.block _ (lt_of_block HY3.out)).trans HY3.out)
  have hmlt := hcls.lt
  have hs4 := hb4.size
  have hmw : w.heap.size + 1 < mb := by rw [hmb]; exact lt_of_block HY3.out
  clear hcls hb4 hmb x0 x1 x2 x3 x4 y0 y1 y2 y3 y4
  have x2 := block_cell HX4.out (i := 2) rfl
  have y2 := block_cell HY4.out (i := 2) rfl
  go_wp2_with fail
  refine wp_gen fun W5 hW5 => ?_
  have hb5 : Below w4.heap.size w4 W5 := by rw [hW5]; go_grown
  have hl5 : W5.ownsRow w4.heap.size 57 2 (.slice (some ⟨w4.heap.size, 0, none⟩) 1 1) 1 ([(a.start.toNat, b.start.toNat)].flatMap pcells) := by
    have hnew : W5.heap[w4.heap.size]? = some (.cells #[.int .i64 a.start, .int .i64 b.start] 57 (0, 0)) := by rw [hW5]; exact heap_alloc_new w4 _
    have e1 : ((a.start.toNat : Nat) : Int) = a.start := by have := HSA.out.s0; omega
    have e2 : ((b.start.toNat : Nat) : Int) = b.start := by have := HSB.out.s0; omega
    exact ⟨rfl, .inr ⟨_, 1, _, rfl, Nat.le_refl _, hnew, by simp, by decide, by simp, by simp [pcells, e1, e2]⟩⟩
  have HL5 := hid hl5
  have HC5 := hid (HCLS.out.below hb5)
  have HCG5 := hid (show Chg (fun b => b = mb) w4 W5 from Chg.of_new hb5)
  have HSI := hid (SmI.init HSA.out HSB.out HI.out.symm)
  have hs5 := hb5.size
  clear hW5 hb5 hl5 x2 y2
  have hrt := roots_le (2 * (a.out.length + b.out.length)) id
  have hN1 := HSA.out.n2
  have hN2 := HSB.out.n2
  go_loopg [6] (1 + 65 * 12000) (fun gk s wr => ∃ (ts : List (Nat × Nat)) (f : Nat → Nat) (Av : Option Addr) (c : Nat), s = .slice Av ts.length c ∧ wr.ownsRow w4.heap.size 57 2 (.slice Av ts.length c) ts.length (ts.flatMap pcells) ∧
    Cls encS 86 wr (mb + 1) mb [] f ∧ SmI a b f ts ∧ ts.length + 65 * roots (2 * (a.out.length + b.out.length)) f ≤ gk ∧ ts.length + 65 * roots (2 * (a.out.length + b.out.length)) f ≤ 1 + 65 * 12000 ∧ Chg (fun b => b = mb) w4 wr)
  case atStart => exact ⟨[(a.start.toNat, b.start.toNat)], id, _, _, rfl, HL5.out, HC5.out, HSI.out, by show 1 + _ ≤ _; omega, by show 1 + _ ≤ _; omega, HCG5.out⟩
  case round =>
    obtain ⟨ts, f, Av, c, rfl, hown, hcl, hsi, hg1, hg2, hch⟩ := hrel
    rcases List.eq_nil_or_concat ts with rfl | ⟨ts', ⟨p, q⟩, hts⟩
    · have hfin := hsame.out.1 (by rw [HA.out, HB.out]; exact hsi.done HSA.out HSB.out HI.out.symm)
      have HFIN := hid hfin
      have HBE := hid ((HB3.out.trans (HB4.out.mono HB3.out.size)).trans (hch.below (fun b h1 h2 => by omega) (by omega)))
      clear hfin hown hcl hsi hg1 hg2 hch
      go_wp2_with fail
      go_ret
      exact ⟨⟨true, rfl, (fun _ => HFIN.out), fun _ => rfl⟩, HBE.out⟩
    · rw [List.concat_eq_append] at hts
      subst hts
      rw [List.length_append, List.length_singleton] at hown hg1 hg2 ⊢
      obtain ⟨n, hn⟩ : ∃ n, n = ts'.length := ⟨_, rfl⟩
      have HN := hid hn
      have hpq := hsi.rng (p, q) (by simp)
      have hcell := pairs_cell (k := ts'.length) (L := ts' ++ [(p, q)]) (by rw [List.length_append, List.length_singleton]; exact hown) (by simp)
      have hgt : (ts' ++ [(p, q)]).getD ts'.length (0, 0) = (p, q) := by simp [List.getD]
      rw [hgt, ← hn] at hcell
      obtain ⟨g, rfl, hgb, hgl, hc0, hc1⟩ := hcell
      have hcap := own_cap hown
      rw [← hn] at hcap
      have hown2 := own_take hown (show ts'.length ≤ ts'.length + 1 by omega)
      have htk : ((ts' ++ [(p, q)]).flatMap pcells).take (ts'.length * 2) = ts'.flatMap pcells := by
        rw [List.flatMap_append, List.take_append_of_le_length (by rw [flat2_len]; exact Nat.le_refl _), List.take_of_length_le (by rw [flat2_len]; exact Nat.le_refl _)]
      rw [htk, ← hn] at hown2
      rw [← hn] at hg1 hg2 ⊢
      have HOWN := hid hown2
      have HCL := hid hcl
      have HSI := hid hsi
      have HCH := hid hch
      have hbw : Below w.heap.size w wr := (HB3.out.trans (HB4.out.mono HB3.out.size)).trans (hch.below (fun b h1 h2 => by omega) (by omega))
      have HBW := hid hbw
      have hpa : p < a.out.length := hpq.1
      have hqb : q < b.out.length := hpq.2
      have hx := hch.box HX4.out (by omega)
      have hy := hch.box HY4.out (by omega)
      have HXR := hid hx
      have HYR := hid hy
      have hszr := hch.size
      clear hown hcl hsi hch hpq hgt hown2 htk hn hbw hx hy
      have hcW : ∀ k, Cls encS 86 (wr.drewN k) (mb + 1) mb [] f := fun k => HCL.out.keep fun _ _ _ => rfl
      have hf1 : ∀ k, Calls Try.prog 36 #[.pointer (some ⟨mb + 1, 0, none⟩), .agg #[.bool false, .int .i64 (p : Int)]] (wr.drewN k) fun e w' => FindSays 86 (mb + 1) mb f (2 * p) (wr.drewN k) e w' := fun k => by
        rw [← encS_left]; exact find_state (mb + 1) mb (2 * p) f (wr.drewN k) (hcW k)
      have HF1 := hid hf1
      clear hcW hf1
      go_upto_region 6 with (fail)
      go_quiet (fail)
      go_wp2_with fail
      refine (HF1.out _).mono ?_
      rintro e w6 ⟨rfl, hcl6, hch6⟩
      obtain ⟨b1, q1, h11, h12⟩ := arrS_split (f (2 * p))
      rw [h12]
      have H11 := hid h11
      have H12 := hid h12
      have hch6' : Chg (fun b => b = mb) wr w6 := (Chg.of_new ((Drawn.n wr _).below wr.heap.size)).trans hch6
      have HCH6 := hid hch6'
      have HCL6 := hid hcl6
      have HOWN6 := hid (own_cls HOWN.out HCL.out hch6')
      have hf2 : Calls Try.prog 36 #[.pointer (some ⟨mb + 1, 0, none⟩), .agg #[.bool true, .int .i64 (q : Int)]] w6 fun e w' => FindSays 86 (mb + 1) mb f (2 * q + 1) w6 e w' := by
        rw [← encS_right]; exact find_state (mb + 1) mb (2 * q + 1) f w6 hcl6
      have HF2 := hid hf2
      clear hcl6 hch6 hch6' hf2 h11 h12 hc0 hc1 HF1
      go_wp2_with fail
      refine HF2.out.mono ?_
      rintro e w7 ⟨rfl, hcl7, hch7⟩
      obtain ⟨b2, q2, h21, h22⟩ := arrS_split (f (2 * q + 1))
      rw [h22]
      have H22 := hid h22
      have HCL7 := hid hcl7
      have HOWN7 := hid (own_cls HOWN6.out HCL6.out hch7)
      have hch7' := HCH6.out.trans hch7
      have HCH7 := hid hch7'
      have hcmp := state_eql (f (2 * p)) (f (2 * q + 1))
      rw [H12.out, h22] at hcmp
      have hwr7 := hch7'.size
      clear hcl7 hch7 h21 h22 HF2 hch7'
      by_cases he : f (2 * p) = f (2 * q + 1)
      · rw [decide_eq_true he] at hcmp
        have HSK := hid (HSI.out.skip he)
        clear he
        go_wp2_with fail
        go_roundg (gk - 1)
        case rel =>
          have hb : ∀ o1 o2, Below w7.heap.size w7 ((w7.alloc o1).alloc o2) := fun o1 o2 => ((Below.refl _ _).alloc (Nat.le_refl _) _).alloc (by simp) _
          exact ⟨ts', f, _, c, by rw [HN.out], by rw [← HN.out]; exact own_below HOWN7.out (hb _ _), HCL7.out.below (hb _ _), HSK.out, by rw [← HN.out]; omega, by rw [← HN.out]; omega, (HCH.out.trans HCH7.out).trans (Chg.of_new (hb _ _))⟩
        all_goals omega
      · rw [decide_eq_false he] at hcmp
        have HNE := hid he
        clear he
        go_wp2_with fail
        refine wp_gen fun W8 hW8 => ?_
        have hb8 : Below w7.heap.size w7 W8 := by rw [hW8]; exact ((Below.refl _ _).alloc (Nat.le_refl _) _).alloc (by simp) _
        have hn8 : W8.heap[w7.heap.size]? = some (.cells #[.bool b1, .int .i64 (q1 : Int)] 56 (0, 0)) := by
          rw [hW8]; (repeat (first | (refine at_new _ _ _ ?_; (simp only [World.size_alloc]; done)) | (refine (at_old _ _ _ ?_).trans ?_; (simp only [World.size_alloc]; omega))))
        have hm8 : W8.heap[w7.heap.size + 1]? = some (.cells #[.bool b2, .int .i64 (q2 : Int)] 56 (0, 0)) := by
          rw [hW8]; (repeat (first | (refine at_new _ _ _ ?_; (simp only [World.size_alloc]; done)) | (refine (at_old _ _ _ ?_).trans ?_; (simp only [World.size_alloc]; omega))))
        have hch8 := HCH7.out.trans (Chg.of_new hb8)
        have HCH8 := hid (HCH.out.trans hch8)
        have HCL8 := hid (HCL7.out.below hb8)
        have HOWN8 := hid (own_below HOWN7.out hb8)
        have hx8 := hch8.box HXR.out (by omega)
        have hy8 := hch8.box HYR.out (by omega)
        have hbw8 : Below w.heap.size w W8 := HBW.out.trans (hch8.below (fun b h1 h2 => by omega) HBW.out.size)
        have HX8 := hid hx8
        have HY8 := hid hy8
        have HBW8 := hid hbw8
        have x3 := block_cell hx8 (i := 3) rfl
        have x0 := block_cell hx8 (i := 0) rfl
        have y3 := block_cell hy8 (i := 3) rfl
        have n0 := block_cell hn8 (i := 0) rfl
        have n1' := block_cell hn8 (i := 1) rfl
        have m0 := block_cell hm8 (i := 0) rfl
        have m1 := block_cell hm8 (i := 1) rfl
        obtain ⟨b3, o3, A3, c3, r3, hA3, _, _, HR3, hr3, hc3⟩ := (HAO.out.keep (Keeps.of_below hbw8 fun _ h => h)).get hpa
        obtain ⟨b4, o4, A4, c4, r4, hA4, _, _, HR4, hr4, hc4⟩ := (HBO.out.keep (Keeps.of_below hbw8 fun _ h => h)).get hqb
        subst hA3
        subst hA4
        have hpi : (p : Int) < a.out.length := by omega
        have hqi : (q : Int) < b.out.length := by omega
        have e3 := HSA.out.outr p 0 hpa (by omega)
        have e4 := HSB.out.outr q 0 hqb (by have := HI.out; omega)
        rw [HR3.out] at e3
        rw [HR4.out] at e4
        have heq : ∀ k, Calls Try.prog 37 #[.slice A3 r3.length c3, .slice A4 r4.length c4] (W8.drewN k) fun e w' => e = .returned (.bool (decide (r3 = r4))) ∧ ∃ j, w' = (W8.drewN k).drewN j := fun k => slequal_any A3 A4 c3 c4 r3 r4 (W8.drewN k) (hr3.keep (Drawn.n W8 k).keeps) (hr4.keep (Drawn.n W8 k).keeps)
        have m3 := hr3.len.1
        have m4 := hr4.len.1
        clear hW8 hb8 hn8 hm8 hch8 hx8 hy8 hbw8 hr3 hr4 e3 e4
        by_cases hro : r3 = r4
        · have HEQ : Hid (∀ k, Calls Try.prog 37 #[.slice A3 r3.length c3, .slice A4 r4.length c4] (W8.drewN k) fun e w' => e = .returned (.bool true) ∧ ∃ j, w' = (W8.drewN k).drewN j) := hid fun k => by have := heq k; rw [decide_eq_true hro] at this; exact this
          have hun := HSI.out.unite HSA.out HSB.out HI.out.symm HCL8.out.idem HNE.out (by rw [HR3.out, HR4.out, hro])
          have HUN := hid hun
          have hcu : ∀ k, Calls Try.prog 38 #[.pointer (some ⟨mb + 1, 0, none⟩), .agg #[.bool b1, .int .i64 (q1 : Int)], .agg #[.bool b2, .int .i64 (q2 : Int)]] (W8.drewN k) fun e w' =>
              e = .returned (.tuple #[]) ∧ Cls encS 86 w' (mb + 1) mb [] (joinF f (f (2 * p)) (f (2 * q + 1))) ∧ Chg (fun k => k = mb) (W8.drewN k) w' := fun k => by
            rw [← H12.out, ← H22.out]
            exact unite_state (mb + 1) mb _ _ f (W8.drewN k) (HCL8.out.keep fun _ _ _ => rfl) (HCL8.out.idem _) (HCL8.out.idem _) HNE.out
          have HCU := hid hcu
          have hrl := roots_less (n := 2 * (a.out.length + b.out.length)) (f := f) (a := f (2 * p)) (b := f (2 * q + 1)) (HCL8.out.idem _) (HCL8.out.idem _) HNE.out (by
            have := HSI.out.mrg.fr (2 * q + 1) (by rw [sum_sz]; omega)
            rw [sum_sz] at this
            exact this)
          obtain ⟨f', hf'⟩ : ∃ f', f' = joinF f (f (2 * p)) (f (2 * q + 1)) := ⟨_, rfl⟩
          rw [← hf'] at HUN HCU hrl
          clear heq hro hun hcu hf'
          go_wp2_with fail
          go_quiet ((go_at_call 37; exact Calls.quiet_of (HEQ.out _)))
          go_wp2_with fail
          refine (HCU.out _).mono ?_
          rintro e w9 ⟨rfl, hcl9, hch9⟩
          have hch9' : Chg (fun b => b = mb) W8 w9 := (Chg.of_new ((Drawn.n W8 _).below W8.heap.size)).trans hch9
          have HCL9 := hid hcl9
          have HCH9 := hid (HCH8.out.trans hch9')
          have HOWN9 := hid (own_cls HOWN8.out HCL8.out hch9')
          have hx9 := hch9'.box HX8.out (by omega)
          have hy9 := hch9'.box HY8.out (by omega)
          have x0 := block_cell hx9 (i := 0) rfl
          have hs9 := hch9'.size
          have HX9 := hid hx9
          have HY9 := hid hy9
          have HBW9 := hid (HBW8.out.trans (hch9'.below (fun b h1 h2 => by omega) HBW8.out.size))
          have hia : a.ins.toNat ≤ 64 := by omega
          have hts : n + 65 ≤ 1000000 := by omega
          clear hcl9 hch9 hch9' hx9 hy9 x3 y3 n0 n1' m0 m1 hc3 hc4
          go_wp2_with fail
          go_loopw [6, 92] (fun s t wr => ∃ (x : Nat) (Av : Option Addr) (c : Nat), x ≤ a.ins.toNat ∧ t = .int .i64 (x : Int) ∧ s = .slice Av (n + x) c ∧ wr.ownsRow w4.heap.size 57 2 (.slice Av (n + x) c) (n + x) ((ts' ++ newP a b p q x).flatMap pcells) ∧
            Cls encS 86 wr (mb + 1) mb [] f' ∧ Chg (fun b => b = mb) w4 wr) (fun _ t _ => a.ins.toNat - (intOf t).toNat)
          case atStart => exact ⟨0, _, c, Nat.zero_le _, rfl, rfl, by rw [show newP a b p q 0 = [] from rfl, List.append_nil]; exact HOWN9.out, HCL9.out, HCH9.out⟩
          case round =>
            obtain ⟨x, Av, c, hx, rfl, rfl, hown, hcl, hch⟩ := hrel
            have HO := hid hown
            have HC := hid hcl
            have HCHR := hid hch
            have hbx := hch.box HX4.out (by omega)
            have hby := hch.box HY4.out (by omega)
            have x0 := block_cell hbx (i := 0) rfl
            have x4 := block_cell hbx (i := 4) rfl
            have y4 := block_cell hby (i := 4) rfl
            have hszr := hch.size
            have hbwr : Below w.heap.size w wr := (HB3.out.trans (HB4.out.mono HB3.out.size)).trans (hch.below (fun b h1 h2 => by omega) (by omega))
            have HBWR := hid hbwr
            clear hown hcl hch hbx hby
            by_cases hxl : (x : Int) < a.ins
            · have hpn : p < a.next.length := by rw [HSA.out.nn]; exact hpa
              have hqn : q < b.next.length := by rw [HSB.out.nn]; exact hqb
              obtain ⟨b5, o5, A5, c5, r5, hA5, _, _, HR5, hr5, hc5⟩ := (HAN.out.keep (Keeps.of_below hbwr fun _ h => h)).get hpn
              obtain ⟨b6, o6, A6, c6, r6, hA6, _, _, HR6, hr6, hc6⟩ := (HBN.out.keep (Keeps.of_below hbwr fun _ h => h)).get hqn
              subst hA5
              subst hA6
              have e5 := HSA.out.nextr p x hpa hxl
              have e6 := HSB.out.nextr q x hqb (by have := HI.out; omega)
              rw [HR5.out] at e5
              rw [HR6.out] at e6
              have hx5 : x < r5.length := by omega
              have hx6 : x < r6.length := by have := HI.out; omega
              obtain ⟨b7, o7, z1, hA7, _, _, HZ1, hd5⟩ := hr5.get hx5
              obtain ⟨b8, o8, z2, hA8, _, _, HZ2, hd6⟩ := hr6.get hx6
              subst hA7
              subst hA8
              rw [HZ1.out] at e5
              rw [HZ2.out] at e6
              obtain ⟨t1, rfl⟩ : ∃ t : Nat, z1 = t := ⟨z1.toNat, by omega⟩
              obtain ⟨t2, rfl⟩ : ∃ t : Nat, z2 = t := ⟨z2.toNat, by omega⟩
              have ht1 : toN a p x = t1 := by unfold toN; rw [HR5.out, HZ1.out, Int.toNat_natCast]
              have ht2 : toN b q x = t2 := by unfold toN; rw [HR6.out, HZ2.out, Int.toNat_natCast]
              have HT1 := hid ht1
              have HT2 := hid ht2
              have hpi5 : (p : Int) < a.next.length := by omega
              have hqi6 : (q : Int) < b.next.length := by omega
              have hxi5 : (x : Int) < r5.length := by omega
              have hxi6 : (x : Int) < r6.length := by omega
              have l5 := hr5.len.1
              have l6 := hr6.len.1
              have HS6 := hid (show wr.cell? ⟨w.heap.size, 4, none⟩ = some (.slice (some ⟨b5, o5, none⟩) a.next.length cn) ∧ wr.cell? ⟨w.heap.size + 1, 4, none⟩ = some (.slice (some ⟨b6, o6, none⟩) b.next.length bn) ∧
                  wr.cell? ⟨b5, o5 + p, none⟩ = some (.slice (some ⟨b7, o7, none⟩) r5.length c5) ∧ wr.cell? ⟨b6, o6 + q, none⟩ = some (.slice (some ⟨b8, o8, none⟩) r6.length c6) ∧ wr.cell? ⟨b7, o7 + x, none⟩ = some (.int .i64 (t1 : Int)) ∧ wr.cell? ⟨b8, o8 + x, none⟩ = some (.int .i64 (t2 : Int)) from ⟨x4, y4, hc5, hc6, hd5, hd6⟩)
              clear hr5 hr6 e5 e6 ht1 ht2 hbwr
              go_wp2_with fail
              go_region_held3 (fun w' => w'.cell? ⟨w.heap.size, 4, none⟩ = some (.slice (some ⟨b5, o5, none⟩) a.next.length cn) ∧ w'.cell? ⟨w.heap.size + 1, 4, none⟩ = some (.slice (some ⟨b6, o6, none⟩) b.next.length bn) ∧
                  w'.cell? ⟨b5, o5 + p, none⟩ = some (.slice (some ⟨b7, o7, none⟩) r5.length c5) ∧ w'.cell? ⟨b6, o6 + q, none⟩ = some (.slice (some ⟨b8, o8, none⟩) r6.length c6) ∧ w'.cell? ⟨b7, o7 + x, none⟩ = some (.int .i64 (t1 : Int)) ∧ w'.cell? ⟨b8, o8 + x, none⟩ = some (.int .i64 (t2 : Int)))
                (first
                  | go_keep
                  | exact cells6_below HS6.out hb10 (by show w.heap.size < _; omega) (by show w.heap.size + 1 < _; omega) (by show b5 < _; omega) (by show b6 < _; omega) (by show b7 < _; omega) (by show b8 < _; omega))
                ((refine step_append_rd _ (by rfl) _ _ 58 (by rfl) w4.heap.size 57 i0 _ 2 16 Try.underlying58 hti hz0 hz1 hz2 rfl (by omega) (.slice Av (n + x) c) (n + x) _ (by rfl) (own_below HO.out (by go_grown)) _ (some ⟨wr.heap.size, 0, none⟩) 1 1 _ (by rfl) (Rd.fresh (D := fun _ => True) rfl trivial (by simp) (by omega)) (by simp [Value.oneCell']) (by omega) (maxLen_le (by omega)) (by simp; omega) ?_
                  intro A10 c10 w10 hown10 hg10 hat10
                  have hb10 : Below w4.heap.size wr w10 := Below.grown (((Below.refl wr.heap.size wr).alloc (Nat.le_refl _) _ |>.trans ((Drawn.n _ 1).below _)).mono hszr) hg10 (by simp; omega) (fun k hk => (HO.out.lt k hk).1)))
              have hcl10 := (HC.out.below (show Below wr.heap.size wr _ from ((Below.refl wr.heap.size wr).alloc (Nat.le_refl _) (.cells #[.int .i64 (t1 : Int), .int .i64 (t2 : Int)] 57)).trans ((Drawn.n _ 1).below _))).row (own_below HO.out (show Below wr.heap.size wr _ from ((Below.refl wr.heap.size wr).alloc (Nat.le_refl _) (.cells #[.int .i64 (t1 : Int), .int .i64 (t2 : Int)] 57)).trans ((Drawn.n _ 1).below _))) (by decide) hg10
              have hch10 := (HCHR.out.trans (Chg.of_new (show Below wr.heap.size wr _ from ((Below.refl wr.heap.size wr).alloc (Nat.le_refl _) (.cells #[.int .i64 (t1 : Int), .int .i64 (t2 : Int)] 57)).trans ((Drawn.n _ 1).below _)))).grown hg10 (fun k e hk => by have := (HO.out.lt k e).1; omega)
              have HCL10 := hid hcl10
              have HCH10 := hid hch10
              have HOWN10 := hid hown10
              clear hcl10 hch10 hown10 hg10 hat10 hb10 x0 x4 y4 hc5 hc6 hd5 hd6
              go_wp2_with fail
              go_roundw
              case rel => exact ⟨x + 1, A10, c10, by omega, by go_num, rfl, by rw [newP_succ, ← List.append_assoc, List.flatMap_append, HT1.out, HT2.out]; exact HOWN10.out, HCL10.out, HCH10.out⟩
              case measure => simp [intOf]; omega
            · have hxe : x = a.ins.toNat := by omega
              have hl : (ts' ++ newP a b p q a.ins.toNat).length = n + x := by rw [List.length_append, newP_len, HN.out, hxe]
              have HL' := hid hl
              have HXE := hid hxe
              clear hl hxe hbwr
              go_wp2_with fail
              go_roundg (gk - 1)
              case rel =>
                refine ⟨ts' ++ newP a b p q a.ins.toNat, f', Av, c, by rw [HL'.out], by rw [HL'.out, ← HXE.out]; exact HO.out, HC.out, HUN.out, by rw [HL'.out]; omega, by rw [HL'.out]; omega, HCHR.out⟩
              all_goals omega
        · have HEQ : Hid (∀ k, Calls Try.prog 37 #[.slice A3 r3.length c3, .slice A4 r4.length c4] (W8.drewN k) fun e w' => e = .returned (.bool false) ∧ ∃ j, w' = (W8.drewN k).drewN j) := hid fun k => by have := heq k; rw [decide_eq_false hro] at this; exact this
          have hno := HSI.out.no HSA.out HSB.out HI.out.symm (by rw [HR3.out, HR4.out]; exact hro)
          have HNO := hid (fun h => hno (by have := hsame.out.2 h; rw [HA.out, HB.out] at this; exact this))
          clear heq hro hno
          go_wp2_with fail
          go_quiet ((go_at_call 37; exact Calls.quiet_of (HEQ.out _)))
          go_wp2_with fail
          go_ret
          exact ⟨⟨false, rfl, (fun h => by cases h), fun h => absurd h HNO.out⟩, below_drewN HBW8.out _⟩
end Go.Proofs.Ytcmhginhfhiolaa
