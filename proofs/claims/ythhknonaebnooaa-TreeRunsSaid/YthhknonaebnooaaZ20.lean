/-
  Walk of the reference: Reached, once more: what it returns is memory of its own. Walk of the laws' moved.
  Walk of the laws' moved.
  What the law TreeRuns remembers, in memory.
-/
import Derived.Test.YthhknonaebnooaaZ19
import Derived.Test.YthhknonaebnooaaZ17
set_option linter.unusedVariables false
set_option linter.unusedSimpArgs false
namespace Go.Proofs.Ythhknonaebnooaa
open Go.RowKit
attribute [local go_sem] cell_alloc_old

set_option maxRecDepth 100000 in
set_option maxHeartbeats 4000000 in
theorem reached_own {D E : Dom} (v : Value) (b : Bu) (A : Option Addr) (c : Nat) (set : List Int) (a : Int) (well : Bool) (w : World) (h : RdBu w D v b) (hs : RdI w E A c set) (hb : buchiB b = true) (hset : ∀ k, k < set.length → 0 ≤ set.getD k 0 ∧ set.getD k 0 < (b.next.length : Int)) (a0 : 0 ≤ a) (a1 : a < b.letters) :
    Calls Try.prog 24 #[v, .slice A set.length c, .int .i64 a, .bool well] w fun e w' => ∃ A' c', e = .returned (.slice A' (reachZ b set a well).length c') ∧ Below w.heap.size w w' ∧ w'.ownsRow w.heap.size 3 1 (.slice A' (reachZ b set a well).length c') (reachZ b set a well).length ((reachZ b set a well).map (.int .i64)) := by
  obtain ⟨i0, hti, hz0, hz1, hz2⟩ := info_parts int_info
  obtain ⟨i1, htb, hy0, hy1, hy2⟩ := info_parts bool_info
  have hy2' : i1.bytes = 1 := hy2
  have HV := hid h.old
  have HS := hid hs.old
  have hsl := hs.len.1
  have HBU := hid hb
  have HSE := hid hset
  have hn3 : b.next.length ≤ 3000 := by
    unfold buchiB at hb
    simp only [Bool.and_eq_true, decide_eq_true_eq] at hb
    exact hb.1.1.2
  obtain ⟨As, cs, An, cn, rfl, ho, hn⟩ := h
  obtain ⟨an, rfl⟩ : ∃ an : Nat, a = (an : Int) := ⟨a.toNat, by omega⟩
  have hmk := run_make_zrow (P := Try.prog) 73 4 i1 (.bool false) 1 Try.underlying73 htb hy0 hy1 hy2 rfl .i64 .i64 b.next.length (by omega) (by omega)
  have HN0 := hid (show RdVVV w (· < w.heap.size) An cn b.next from monoVVV hn fun _ _ hl => hl)
  clear ho hn hs hb hset
  go_enter Try.func24, Try.ntmps24
  go_upto_region 2 with (fail)
  refine wp_gen fun W hW => ?_
  have hM : Mk1 w W #[.int .i64 b.letters, .slice As b.start.length cs, .slice An b.next.length cn] b (List.replicate b.next.length false) := by
    obtain ⟨w1, h1⟩ : ∃ w1, w1 = w.alloc (.cells #[.int .i64 b.letters, .slice As b.start.length cs, .slice An b.next.length cn] 25) := ⟨_, rfl⟩
    have s1 : w1.heap.size = w.heap.size + 1 := by rw [h1]; simp
    have m1 : HasB w1 w.heap.size #[.int .i64 b.letters, .slice As b.start.length cs, .slice An b.next.length cn] b := by rw [h1]; exact HasB.new HV.out
    have b1 : Below w.heap.size w w1 := by rw [h1]; go_grown
    rw [← h1] at hW
    have b2 : Below w1.heap.size w1 W := by rw [hW]; go_grown
    refine ⟨b1.trans (b2.mono b1.size), m1.below b2, ?_⟩
    rw [hW, ← s1, heap_alloc_new]; simp [zrow]
  have HM := hid hM
  clear hW hM
  go_wp2_with fail
  go_loopw [10] (fun t wr => ∃ (k : Nat) (mk : List Bool), k ≤ set.length ∧ t = .int .i64 (k : Int) ∧ Mk1 w wr #[.int .i64 b.letters, .slice As b.start.length cs, .slice An b.next.length cn] b mk ∧ mk.length = b.next.length ∧ ∀ s : Nat, s < b.next.length → mk.getD s false = hitB b (set.take k) an well s) (fun t _ => set.length - (intOf t).toNat)
  case atStart => exact ⟨0, _, Nat.zero_le _, rfl, HM.out, by simp, fun s hs => by simp [hitB, List.getD, hs]⟩
  case round =>
    obtain ⟨k, mk, hk, rfl, hM, hmkl, hhit⟩ := hrel
    have HM := hid hM
    have HML := hid hmkl
    have HH := hid hhit
    have hbw := hM.below
    obtain ⟨x0, x1, x2, xl⟩ := hM.box.cells
    have hrow := lt_of_block hM.row
    have HSR := hid (HS.out.keep (Keeps.of_below hbw fun _ h => h))
    have HBWR := hid hbw
    clear hM hmkl hhit hbw
    by_cases hlt : k < set.length
    · obtain ⟨g, o, q, rfl, _, hgl, HX, hc⟩ := HSR.out.get hlt
      have hq := HSE.out k hlt
      rw [HX.out] at hq
      obtain ⟨qn, rfl⟩ : ∃ qn : Nat, q = (qn : Int) := ⟨q.toNat, by omega⟩
      have hqn : qn < b.next.length := by omega
      obtain ⟨g2, o2, A2, c2, row, hAn, _, hgl2, HR, hr, hc2⟩ := HN0.out.get hqn
      subst hAn
      have hbn := buchi_next HBU.out hqn a1
      rw [HR.out] at hbn
      have hrl := hr.len.1
      have han : an < row.length := by omega
      obtain ⟨g3, o3, A3, c3, l, hA2, _, hgl3, HL, hl, hc3⟩ := RdOf.get hr han
      subst hA2
      have hll := hl.len.1
      have hrng := hbn.2
      rw [HL.out] at hrng
      have hqi : (qn : Int) < b.next.length := by omega
      have hai : (an : Int) < row.length := by omega
      have hki : (k : Int) < set.length := by omega
      have HRNG := hid hrng
      have HMV := hid (show mvs b (set.getD k 0) an = l by unfold mvs; rw [HX.out]; show (b.next.getD qn []).getD an [] = l; rw [HR.out, HL.out])
      have HLR := hid hl
      have hc2 := (HBWR.out.cell (p := ⟨g2, o2 + qn, none⟩) hgl2).trans hc2
      have hc3 := (HBWR.out.cell (p := ⟨g3, o3 + an, none⟩) hgl3).trans hc3
      have hws := HBWR.out.size
      clear hl hr hbn hrng
      go_wp2_with fail
      go_quiet (fail)
      go_wp2_with fail
      go_loopw [12] (fun t wr' => ∃ (e : Nat) (mk' : List Bool), e ≤ l.length ∧ t = .int .i64 (e : Int) ∧ Mk1 w wr' #[.int .i64 b.letters, .slice As b.start.length cs, .slice (some ⟨g2, o2, none⟩) b.next.length cn] b mk' ∧ mk'.length = b.next.length ∧ ∀ s : Nat, s < b.next.length → mk'.getD s false = (hitB b (set.take k) an well s || hitM (l.take e) well s)) (fun t _ => l.length - (intOf t).toNat)
      case atStart => exact ⟨0, mk, Nat.zero_le _, rfl, by first | exact HM.out | exact HM.out.drewN _, HML.out, fun s hs => by rw [HH.out s hs]; simp [hitM]⟩
      case round =>
        obtain ⟨e, mk', he, rfl, hM, hml, hh⟩ := hrel
        have HM2 := hid hM
        have HML2 := hid hml
        have HH2 := hid hh
        have HLR2 := hid (HLR.out.keep (Keeps.of_below hM.below fun _ h => h))
        have hrow2 := lt_of_block hM.row
        have HB2 := hid hM.below
        clear hM hml hh
        by_cases hle : e < l.length
        · obtain ⟨g4, o4, m, rfl, _, hgl4, HMM, hm0, hm1⟩ := HLR2.out.get hle
          have hei : (e : Int) < l.length := by omega
          have hd := HRNG.out e hle
          rw [HMM.out] at hd
          obtain ⟨dst, gd⟩ := m
          obtain ⟨dn, rfl⟩ : ∃ dn : Nat, dst = (dn : Int) := ⟨dst.toNat, by have := hd.1; simp only at this; omega⟩
          simp only at hm0 hm1 hd
          have hdn : dn < b.next.length := by omega
          have hdi : (dn : Int) < b.next.length := by omega
          obtain ⟨q1, q2⟩ := HM2.out.get (i := dn) (by rw [HML2.out]; exact hdn)
          have hsn : ∀ s : Nat, hitM (l.take (e + 1)) well (s : Int) = (hitM (l.take e) well s || (decide ((dn : Int) = (s : Int)) && (gd || !well))) := fun s => by
            rw [hitM_snoc l well s hle, HMM.out]
          have HSN := hid hsn
          clear hsn hd
          by_cases hc : (gd || !well) = true
          · have HC := hid hc
            have hyes : ∀ s : Nat, s < b.next.length → (mk'.set dn true).getD s false = (hitB b (set.take k) an well s || hitM (l.take (e + 1)) well s) := fun s hs => by
              rw [HSN.out s, HC.out]
              by_cases es : dn = s
              · subst es
                have : (mk'.set dn true).getD dn false = true := by simp [List.getD, HML2.out, hs]
                rw [this]; simp
              · have e1 : (mk'.set dn true).getD s false = mk'.getD s false := by simp [List.getD, es]
                have e2 : decide ((dn : Int) = (s : Int)) = false := decide_eq_false (by omega)
                rw [e1, HH2.out s hs, e2]; simp
            have HYES := hid hyes
            have HRD := hid (HV.out.keep (Keeps.of_below HB2.out fun _ h => h))
            clear hyes
            cases gd <;> cases well <;> first
              | (exfalso; revert hc; decide)
              | (clear hc
                 go_wp2_with fail
                 go_roundw
                 case rel => exact ⟨e + 1, _, by omega, by go_num, HM2.out.set dn true HRD.out, by rw [List.length_set]; exact HML2.out, HYES.out⟩
                 case measure => simp [intOf]; omega)
          · have HC := hid (Bool.eq_false_iff.2 hc)
            have hno : ∀ s : Nat, s < b.next.length → mk'.getD s false = (hitB b (set.take k) an well s || hitM (l.take (e + 1)) well s) := fun s hs => by
              rw [HSN.out s, HC.out, HH2.out s hs]; simp
            have HNO := hid hno
            clear hno
            cases gd <;> cases well <;> first
              | (exfalso; revert hc; decide)
              | (clear hc
                 go_wp2_with fail
                 go_roundw
                 case rel => exact ⟨e + 1, _, by omega, by go_num, HM2.out, HML2.out, HNO.out⟩
                 case measure => simp [intOf]; omega)
        · have hle2 : l.take e = l := List.take_of_length_le (by omega)
          have HLE := hid hle2
          clear hle2
          go_wp2_with fail
          go_roundw
          case rel => exact ⟨k + 1, mk', by omega, by go_num, HM2.out, HML2.out, fun s hs => by rw [hitB_snoc b set an well s hlt, HMV.out, HH2.out s hs, HLE.out]⟩
          case measure => simp [intOf]; omega
    · have hst : set.take k = set := List.take_of_length_le (by omega)
      have hall : ∀ s : Nat, s < b.next.length → mk.getD s false = hitB b set an well s := fun s hs => by rw [HH.out s hs, hst]
      have HALL := hid hall
      obtain ⟨W0, hW0⟩ : ∃ W0 : World, W0 = wr := ⟨_, rfl⟩
      rw [← hW0] at HM hrow ⊢
      clear hst hall hW0 HSR HBWR xl x0 x1 x2
      go_upto_region 12 with (fail)
      refine wp_gen fun W3 hW3 => ?_
      have hb3 : Below W0.heap.size W0 W3 := by rw [hW3]; go_grown
      have ho3 : W3.ownsRow W0.heap.size 3 1 (.slice (some ⟨W0.heap.size, 0, none⟩) 0 0) 0 ((reachTo b set an well 0).map (.int .i64)) := by
        refine ⟨rfl, .inr ⟨W0.heap.size, 0, #[], rfl, Nat.le_refl _, ?_, Nat.le_refl _, by decide, rfl, rfl⟩⟩
        rw [hW3]; exact heap_alloc_new W0 _
      have HR3 := hid ((hb3.block _ hrow).trans HM.out.row)
      have HB3 := hid (HM.out.below.trans (hb3.mono HM.out.below.size))
      have HO3 := hid ho3
      have hs3 : W0.heap.size < W3.heap.size := by rw [hW3]; simp only [World.size_alloc]; omega
      have hws := HM.out.below.size
      clear hW3 hb3 ho3
      go_wp2_with fail
      go_loopw [13, 14] (fun s t wr => ∃ (i n' : Nat) (A' : Option Addr) (c' : Nat), i ≤ b.next.length ∧ n' = (reachTo b set an well i).length ∧ t = .int .i64 (i : Int) ∧ s = .slice A' n' c' ∧ wr.ownsRow W0.heap.size 3 1 (.slice A' n' c') n' ((reachTo b set an well i).map (.int .i64)) ∧ Below W0.heap.size W3 wr) (fun _ t _ => b.next.length - (intOf t).toNat)
      case atStart => exact ⟨0, 0, _, 0, Nat.zero_le _, rfl, rfl, rfl, HO3.out, Below.refl _ _⟩
      case round =>
        obtain ⟨i, n', A', c', hi, hn', rfl, rfl, hown, hbr⟩ := hrel
        have HOX := hid hown
        have HBX := hid hbr
        have hnb : n' ≤ i := by rw [hn']; exact reachTo_len b set an well i
        have HNN := hid hn'
        have hszr := hbr.size
        have hrw := (hbr.block _ hrow).trans HR3.out
        have hrl := lt_of_block hrw
        have HRW := hid hrw
        clear hown hbr hn' hrw
        by_cases hlt3 : i < b.next.length
        · have hii : (i : Int) < b.next.length := by omega
          have q1 : wr.cell? ⟨w.heap.size + 1, i, none⟩ = some (.bool (mk.getD i false)) := block_cell HRW.out (by simp [List.getD, HML.out, hlt3])
          rw [HALL.out i hlt3] at q1
          have HSN := hid (reachTo_snoc b set an well i)
          cases hh : hitB b set an well i
          · rw [hh] at q1
            have HHH := hid hh
            clear hh
            go_wp2_with fail
            go_roundw
            case rel =>
              refine ⟨i + 1, n', A', c', by omega, ?_, by go_num, rfl, ?_, HBX.out⟩
              · rw [HSN.out, HHH.out]; simpa using HNN.out
              · rw [HSN.out, HHH.out]; simpa using HOX.out
            case measure => simp [intOf]; omega
          · rw [hh] at q1
            have HHH := hid hh
            clear hh
            go_wp2_with (at_builtin; go_must (refine wpList_append_rd _ rfl (.tmp 69) (.tmp 71) 22 rfl W0.heap.size 3 i0 _ 1 8 Try.underlying22 hti hz0 hz1 hz2 rfl (by omega) (.slice A' n' c') n' _ rfl (HOX.out.alloc _) _ (some ⟨wr.heap.size, 0, none⟩) 1 1 _ rfl (Rd.cell1 (cell_new wr _ _ _ _ _ rfl rfl)) (by simp [Value.oneCell']) (by omega) (maxLen_le (by omega)) (by simp; omega) ?_); intro A5 c5 w5 hown5 hg5 hat5)
            have hb5 := Below.grown (B := W0.heap.size) (HBX.out.trans ((show Below wr.heap.size wr _ from by go_grown).mono (by omega))) hg5 (by simp; omega) (fun k hk => (HOX.out.lt k hk).1)
            have HO5 := hid hown5
            have HB5 := hid hb5
            clear hown5 hg5 hat5 hb5
            go_roundw
            case rel =>
              refine ⟨i + 1, n' + 1, A5, c5, by omega, ?_, by go_num, rfl, ?_, HB5.out⟩
              · rw [HSN.out, HHH.out]; simp [← HNN.out]
              · rw [HSN.out, HHH.out]; simpa using HO5.out
            case measure => simp [intOf]; omega
        · have hie : i = b.next.length := by omega
          have HIE := hid hie
          clear hie
          go_wp2_with fail
          go_ret
          have hn2 := HNN.out
          have ho2 := HOX.out
          rw [HIE.out] at hn2 ho2
          have e : reachTo b set an well b.next.length = reachZ b set an well := rfl
          rw [e] at hn2 ho2
          have hws0 := hws
          refine ⟨A', c', ret_sl hn2, HB3.out.trans (HBX.out.mono hws), ?_⟩
          rw [← hn2]
          exact own_base ho2 hws0
end Go.Proofs.Ythhknonaebnooaa
set_option linter.unusedVariables false
set_option linter.unusedSimpArgs false
namespace Go.Proofs.Ythhknonaebnooaa
open Go.RowKit
attribute [local go_sem] cell_alloc_old

theorem reach_in {b : Bu} {S : List Int} {a : Int} {w : Bool} : ∀ x ∈ reachZ b S a w, 0 ≤ x ∧ x < (b.next.length : Int) := fun x hx => by
  have := reach_mem.1 hx
  exact ⟨this.1, this.2.1⟩
theorem moved_rng {b : Bu} {S : List Int} (h : ∀ x ∈ S, 0 ≤ x ∧ x < (b.next.length : Int)) : ∀ (n : Nat) (ls : List Int), ls.length = n → (∀ x ∈ (movedZ b S ls).1, 0 ≤ x ∧ x < (b.next.length : Int)) ∧ ∀ x ∈ (movedZ b S ls).2, 0 ≤ x ∧ x < (b.next.length : Int)
  | 0, ls, hl => by
    rw [List.eq_nil_of_length_eq_zero hl]
    exact ⟨h, fun x hx => by cases hx⟩
  | n + 1, ls, hl => by
    rcases List.eq_nil_or_concat ls with rfl | ⟨l', x, rfl⟩
    · cases hl
    · rw [List.concat_eq_append] at hl ⊢
      obtain ⟨h1, h2⟩ := moved_rng h n l' (by simpa using hl)
      rw [movedZ_snoc]
      exact ⟨reach_in, fun y hy => (addZ_mem.1 hy).elim (fun e => reach_in y e) (fun e => reach_in y e)⟩
theorem rng_at {n : Int} {S : List Int} (h : ∀ x ∈ S, 0 ≤ x ∧ x < n) : ∀ k, k < S.length → 0 ≤ S.getD k 0 ∧ S.getD k 0 < n := fun k hk => h _ (mem_getD hk)
set_option maxRecDepth 100000 in
set_option maxHeartbeats 4000000 in
theorem moved_any {D E E2 : Dom} (v : Value) (b : Bu) (A : Option Addr) (c : Nat) (set : List Int) (Al : Option Addr) (cl : Nat) (ls : List Int) (w : World) (h : RdBu w D v b) (hs : RdI w E A c set) (hl : RdI w E2 Al cl ls) (hb : buchiB b = true) (hset : ∀ x ∈ set, 0 ≤ x ∧ x < (b.next.length : Int)) (hlet : ∀ k, k < ls.length → 0 ≤ ls.getD k 0 ∧ ls.getD k 0 < b.letters) :
    Calls Try.prog 27 #[v, .slice A set.length c, .slice Al ls.length cl] w fun e w' => ∃ A1 c1 AG cG, e = .returned (.tuple #[.slice A1 (movedZ b set ls).1.length c1, .slice AG (movedZ b set ls).2.length cG]) ∧ Below w.heap.size w w' ∧ RdI w' Any AG cG (movedZ b set ls).2 := by
  obtain ⟨i0, hti, hz0, hz1, hz2⟩ := info_parts int_info
  have HV := hid h.old
  have HS := hid hs.old
  have HLS := hid hl.old
  have hll := hl.len.1
  have hn3 := buchi_len hb
  have HBU := hid hb
  have HSET := hid hset
  have HLET := hid hlet
  obtain ⟨As, cs, An, cn, rfl, ho, hn⟩ := h
  clear ho hn hs hl hb hset hlet
  go_enter Try.func27, Try.ntmps27
  go_upto_region 2 with (fail)
  refine wp_gen fun W hW => ?_
  obtain ⟨w1, h1⟩ : ∃ w1, w1 = w.alloc (.cells #[.int .i64 b.letters, .slice As b.start.length cs, .slice An b.next.length cn] 25) := ⟨_, rfl⟩
  have m1 : HasB w1 w.heap.size #[.int .i64 b.letters, .slice As b.start.length cs, .slice An b.next.length cn] b := by rw [h1]; exact HasB.new HV.out
  have b1 : Below w.heap.size w w1 := by rw [h1]; go_grown
  rw [← h1] at hW
  have b2 : Below w1.heap.size w1 W := by rw [hW]; go_grown
  have HB := hid (m1.below b2)
  have HBW := hid (b1.trans (b2.mono b1.size))
  have HS0 := hid (HS.out.any HBW.out)
  clear hW h1 m1 b1 b2
  go_wp2_with fail
  go_loopw [1, 8, 9] (fun s gv q wr => ∃ (k n1 n2 : Nat) (A1 : Option Addr) (c1 : Nat) (AG : Option Addr) (cG : Nat), k ≤ ls.length ∧ n1 = (movedZ b set (ls.take k)).1.length ∧ n2 = (movedZ b set (ls.take k)).2.length ∧ s = .slice A1 n1 c1 ∧ gv = .slice AG n2 cG ∧ q = .int .i64 (k : Int) ∧ Below W.heap.size W wr ∧ RdI wr Any A1 c1 (movedZ b set (ls.take k)).1 ∧ RdI wr Any AG cG (movedZ b set (ls.take k)).2) (fun _ _ q _ => ls.length - (intOf q).toNat)
  case atStart => exact ⟨0, _, _, A, c, _, 0, Nat.zero_le _, rfl, rfl, rfl, rfl, rfl, Below.refl _ _, HS0.out, RdI.nil _ _ _ (by omega)⟩
  case round =>
    obtain ⟨k, n1, n2, A1, c1, AG, cG, hk, hn1, hn2, rfl, rfl, rfl, hb, hr1, hr2⟩ := hrel
    obtain ⟨M, hM⟩ : ∃ M, M = movedZ b set (ls.take k) := ⟨_, rfl⟩
    rw [← hM] at hn1 hn2 hr1 hr2
    have hrng := moved_rng HSET.out _ (ls.take k) rfl
    rw [← hM] at hrng
    have HRG := hid hrng
    have HBR := hid hb
    have HR1 := hid hr1
    have HR2 := hid hr2
    have HM := hid hM
    have hszr := hb.size
    subst hn1 hn2
    clear hb hr1 hr2 hrng hM
    by_cases hlt : k < ls.length
    · have hki : (k : Int) < ls.length := by omega
      have hbw := HBW.out.trans (HBR.out.mono HBW.out.size)
      obtain ⟨g, o, a, hAl, _, hgl, HX, hc⟩ := (HLS.out.keep (Keeps.of_below hbw fun _ h => h)).get hlt
      subst hAl
      have hlet : 0 ≤ a ∧ a < b.letters := by have := HLET.out k hlt; rw [HX.out] at this; exact this
      have HLT := hid hlet
      have HCELL : Hid (∀ W' : World, Below wr.heap.size wr W' → W'.cell? ⟨w.heap.size, 0, none⟩ = some (.int .i64 b.letters) ∧ W'.cell? ⟨w.heap.size, 1, none⟩ = some (.slice As b.start.length cs) ∧ W'.cell? ⟨w.heap.size, 2, none⟩ = some (.slice An b.next.length cn) ∧ W'.cell? ⟨g, o + k, none⟩ = some (.int .i64 a)) := hid fun W' hb => by
        obtain ⟨o0, o1, o2, _⟩ := ((HB.out.below HBR.out).below hb).cells
        exact ⟨o0, o1, o2, (hb.cell (p := ⟨g, o + k, none⟩) hgl).trans hc⟩
      have HCALL : Hid (∀ W' : World, Below wr.heap.size wr W' → Calls Try.prog 24 #[.agg #[.int .i64 b.letters, .slice As b.start.length cs, .slice An b.next.length cn], .slice A1 M.1.length c1, .int .i64 a, .bool true] W' fun e W'' => ∃ (A6 : Option Addr) (c6 : Nat), e = .returned (.slice A6 (reachZ b M.1 a true).length c6) ∧ Below wr.heap.size wr W'' ∧ RdI W'' Any A6 c6 (reachZ b M.1 a true)) := hid fun W' hb => by
        refine (reached_any _ b A1 c1 M.1 a true W' (((HB.out.below HBR.out).below hb).rd) (HR1.out.any hb) HBU.out (rng_at HRG.out.1) HLT.out.1 HLT.out.2).mono ?_
        rintro e W'' ⟨A6, c6, rfl, h1, h2⟩
        exact ⟨A6, c6, rfl, hb.trans (h1.mono hb.size), h2.mono fun _ _ _ => trivial⟩
      obtain ⟨o0, o1, o2, hc⟩ := HCELL.out wr (Below.refl _ _)
      clear hlet hbw
      have HI1 := hid (show Below wr.heap.size wr wr.drew from (Below.refl _ _).drew)
      have HI2 := hid (show ∀ i, Below wr.heap.size wr (wr.drewN i) from fun i => (Drawn.n wr i).below _)
      go_upto_region 5 with (fail)
      go_region_held3 (fun W' : World => W'.cell? ⟨w.heap.size, 0, none⟩ = some (.int .i64 b.letters) ∧ W'.cell? ⟨w.heap.size, 1, none⟩ = some (.slice As b.start.length cs) ∧ W'.cell? ⟨w.heap.size, 2, none⟩ = some (.slice An b.next.length cn) ∧ W'.cell? ⟨g, o + k, none⟩ = some (.int .i64 a))
        (first | (with_reducible exact HCELL.out _ hI) | (go_keep; done))
        ((go_at_call 24; refine (HCALL.out _ (by first | exact HI1.out | exact HI2.out _)).mono ?_; rintro e W6 ⟨A6, c6, rfl, hI, hmore⟩))
      all_goals
        have HB6 := hid (HBR.out.trans (hI.mono hszr))
        have HM6 := hid hmore
        have HR16 := hid (HR1.out.any hI)
        have HR26 := hid (HR2.out.any hI)
        have hs6 := hI.size
        have HBX6 := hid ((HB.out.below HBR.out).below hI)
        have HCELL := hid (fun (W' : World) (hb : Below W6.heap.size W6 W') => HCELL.out W' (hI.trans (hb.mono hI.size)))
        have HCALL : Hid (∀ W' : World, Below W6.heap.size W6 W' → Calls Try.prog 24 #[.agg #[.int .i64 b.letters, .slice As b.start.length cs, .slice An b.next.length cn], .slice AG M.2.length cG, .int .i64 a, .bool false] W' fun e W'' => ∃ (A7 : Option Addr) (c7 : Nat), e = .returned (.slice A7 (reachZ b M.2 a false).length c7) ∧ Below W6.heap.size W6 W'' ∧ W''.ownsRow W6.heap.size 3 1 (.slice A7 (reachZ b M.2 a false).length c7) (reachZ b M.2 a false).length ((reachZ b M.2 a false).map (.int .i64))) := hid fun W' hb => by
          refine (reached_own _ b AG cG M.2 a false W' ((HBX6.out.below hb).rd) (HR26.out.any hb) HBU.out (rng_at HRG.out.2) HLT.out.1 HLT.out.2).mono ?_
          rintro e W'' ⟨A6, c6, rfl, h1, h2⟩
          exact ⟨A6, c6, rfl, hb.trans (h1.mono hb.size), own_base h2 hb.size⟩
        clear hI hmore o0 o1 o2 hc
        obtain ⟨o0, o1, o2, hc⟩ := HCELL.out W6 (Below.refl _ _)
        have HI1 := hid (show Below W6.heap.size W6 W6.drew from (Below.refl _ _).drew)
        have HI2 := hid (show ∀ i, Below W6.heap.size W6 (W6.drewN i) from fun i => (Drawn.n W6 i).below _)
        go_upto_region 6 with (fail)
        go_region_held3 (fun W' : World => W'.cell? ⟨w.heap.size, 0, none⟩ = some (.int .i64 b.letters) ∧ W'.cell? ⟨w.heap.size, 1, none⟩ = some (.slice As b.start.length cs) ∧ W'.cell? ⟨w.heap.size, 2, none⟩ = some (.slice An b.next.length cn) ∧ W'.cell? ⟨g, o + k, none⟩ = some (.int .i64 a))
          (first | (with_reducible exact HCELL.out _ hI) | (go_keep; done))
          ((go_at_call 24; refine (HCALL.out _ (by first | exact HI1.out | exact HI2.out _)).mono ?_; rintro e W7 ⟨A7, c7, rfl, hI, hown⟩))
        all_goals
          have HB7 := hid hI
          have HO7 := hid hown
          have hs7 := hI.size
          obtain ⟨more, hmore⟩ : ∃ more, more = reachZ b M.1 a true := ⟨_, rfl⟩
          obtain ⟨G0, hG0⟩ : ∃ G0, G0 = reachZ b M.2 a false := ⟨_, rfl⟩
          have hml : more.length ≤ 3000 := by rw [hmore]; exact Nat.le_trans (reachTo_len b M.1 a true b.next.length) hn3
          have hgl0 : G0.length ≤ 3000 := by rw [hG0]; exact Nat.le_trans (reachTo_len b M.2 a false b.next.length) hn3
          rw [← hmore] at HM6 ⊢
          rw [← hG0] at HO7 ⊢
          have HMO := hid hmore
          have HG0 := hid hG0
          clear hI hown o0 o1 o2 hc hmore hG0
          go_wp2_with fail
          go_loopw [8, 11] (fun gv q wr => ∃ (j n : Nat) (AG : Option Addr) (cG : Nat), j ≤ more.length ∧ n = (addTo G0 more j).length ∧ gv = .slice AG n cG ∧ q = .int .i64 (j : Int) ∧ wr.ownsRow W6.heap.size 3 1 (.slice AG n cG) n ((addTo G0 more j).map (.int .i64)) ∧ Below W6.heap.size W6 wr) (fun _ q _ => more.length - (intOf q).toNat)
          case atStart => exact ⟨0, _, A7, c7, Nat.zero_le _, rfl, rfl, rfl, HO7.out, HB7.out⟩
          case round =>
            obtain ⟨j, n, AG', cG', hj, hn, rfl, rfl, hown, hb⟩ := hrel
            have HOX := hid hown
            have HBX := hid hb
            have HNN := hid hn
            have hnb : n ≤ G0.length + j := by rw [hn]; exact addTo_len G0 more j
            have hszj := hb.size
            clear hown hb hn
            by_cases hlj : j < more.length
            · have hji : (j : Int) < more.length := by omega
              obtain ⟨g9, o9, x, hA6, _, hgl9, HXX, hx⟩ := ((HM6.out.old).keep (Keeps.of_below HBX.out fun _ h => h)).get hlj
              subst hA6
              have hrd : RdI wr Any AG' cG' (addTo G0 more j) := by
                have := Rd.own (D := Any) HOX.out (by omega) (fun _ _ => trivial)
                rw [HNN.out] at this; exact this
              have hin := in_any AG' cG' (addTo G0 more j) x wr hrd
              rw [← HNN.out] at hin
              have hnx : addTo G0 more (j + 1) = if inB (addTo G0 more j) x then addTo G0 more j else addTo G0 more j ++ [x] := by rw [← HXX.out]; rfl
              obtain ⟨bv, hbv⟩ : ∃ bv, bv = inB (addTo G0 more j) x := ⟨_, rfl⟩
              rw [← hbv] at hin hnx
              have HIN := hid hin
              have HNX := hid hnx
              clear hin hnx hbv hrd
              cases bv
              · go_wp2_with fail
                refine HIN.out.mono ?_
                rintro e w9 ⟨rfl, rfl⟩
                go_wp2_with (at_builtin; go_must (refine wpList_append_rd _ rfl (.tmp 46) (.tmp 51) 22 rfl W6.heap.size 3 i0 _ 1 8 Try.underlying22 hti hz0 hz1 hz2 rfl (by omega) (.slice AG' n cG') n _ rfl (HOX.out.alloc _) _ (some ⟨w9.heap.size, 0, none⟩) 1 1 _ rfl (Rd.cell1 (cell_new w9 _ _ _ _ _ rfl rfl)) (by simp [Value.oneCell']) (by omega) (maxLen_le (by omega)) (by simp; omega) ?_); intro A5 c5 w5 hown5 hg5 hat5)
                have hb5 := Below.grown (B := W6.heap.size) (HBX.out.trans ((show Below w9.heap.size w9 _ from by go_grown).mono hszj)) hg5 (by simp; omega) (fun k hk => (HOX.out.lt k hk).1)
                have HO5 := hid hown5
                have HB5 := hid hb5
                clear hown5 hg5 hat5 hb5
                go_roundw
                case rel =>
                  refine ⟨j + 1, n + 1, A5, c5, by omega, ?_, rfl, by go_num, ?_, HB5.out⟩
                  · rw [HNX.out, if_neg (by decide), List.length_append, ← HNN.out]; rfl
                  · rw [HNX.out, if_neg (by decide), List.map_append]; exact HO5.out
                case measure => simp [intOf]; omega
              · go_wp2_with fail
                refine HIN.out.mono ?_
                rintro e w9 ⟨rfl, rfl⟩
                go_wp2_with fail
                go_roundw
                case rel => exact ⟨j + 1, n, AG', cG', by omega, by rw [HNX.out]; simpa using HNN.out, rfl, by go_num, by rw [HNX.out]; simpa using HOX.out, HBX.out⟩
                case measure => simp [intOf]; omega
            · have hje : j = more.length := by omega
              have hadd : addTo G0 more j = addZ G0 more := by rw [hje]; rfl
              have hrd : RdI wr Any AG' cG' (addZ G0 more) := by
                have := Rd.own (D := Any) HOX.out (by omega) (fun _ _ => trivial)
                rw [HNN.out, hadd] at this; exact this
              have HRD := hid hrd
              have HNA := hid (show n = (addZ G0 more).length by rw [← hadd]; exact HNN.out)
              have HCALL : Hid (∀ W' : World, Below wr.heap.size wr W' → Calls Try.prog 24 #[.agg #[.int .i64 b.letters, .slice As b.start.length cs, .slice An b.next.length cn], .slice A1 M.1.length c1, .int .i64 a, .bool false] W' fun e W'' => ∃ (A8 : Option Addr) (c8 : Nat), e = .returned (.slice A8 (reachZ b M.1 a false).length c8) ∧ Below wr.heap.size wr W'' ∧ RdI W'' Any A8 c8 (reachZ b M.1 a false)) := hid fun W' hb => by
                refine (reached_any _ b A1 c1 M.1 a false W' (((HBX6.out.below HBX.out).below hb).rd) ((HR16.out.any HBX.out).any hb) HBU.out (rng_at HRG.out.1) HLT.out.1 HLT.out.2).mono ?_
                rintro e W'' ⟨A6, c6, rfl, h1, h2⟩
                exact ⟨A6, c6, rfl, hb.trans (h1.mono hb.size), h2.mono fun _ _ _ => trivial⟩
              have HCELL := hid (fun (W' : World) (hb : Below wr.heap.size wr W') => HCELL.out W' (HBX.out.trans (hb.mono HBX.out.size)))
              obtain ⟨o0, o1, o2, hc⟩ := HCELL.out wr (Below.refl _ _)
              clear hje hadd hrd
              have HI1 := hid (show Below wr.heap.size wr wr.drew from (Below.refl _ _).drew)
              have HI2 := hid (show ∀ i, Below wr.heap.size wr (wr.drewN i) from fun i => (Drawn.n wr i).below _)
              go_upto_region 12 with (fail)
              go_region_held3 (fun W' : World => W'.cell? ⟨w.heap.size, 0, none⟩ = some (.int .i64 b.letters) ∧ W'.cell? ⟨w.heap.size, 1, none⟩ = some (.slice As b.start.length cs) ∧ W'.cell? ⟨w.heap.size, 2, none⟩ = some (.slice An b.next.length cn) ∧ W'.cell? ⟨g, o + k, none⟩ = some (.int .i64 a))
                (first | (with_reducible exact HCELL.out _ hI) | (go_keep; done))
                ((go_at_call 24; refine (HCALL.out _ (by first | exact HI1.out | exact HI2.out _)).mono ?_; rintro e W9 ⟨A8, c8, rfl, hI, hset⟩))
              all_goals
                have hmv : movedZ b set (ls.take (k + 1)) = (reachZ b M.1 a false, addZ G0 more) := by
                  rw [take_succ_getD ls 0 hlt, HX.out, movedZ_snoc, ← HM.out]
                  unfold movStep
                  rw [HMO.out, HG0.out]
                have HMV := hid hmv
                have HB9 := hid (HB6.out.trans ((HBX.out.trans (hI.mono hszj)).mono HB6.out.size))
                have HS9 := hid hset
                have HG9 := hid (HRD.out.any hI)
                clear hmv hI hset o0 o1 o2 hc
                go_wp2_with fail
                go_roundw
                case rel => exact ⟨k + 1, (reachZ b M.1 a false).length, n, A8, c8, AG', cG', by omega, by rw [HMV.out], by rw [HMV.out]; exact HNA.out, rfl, rfl, by go_num, HB9.out, by rw [HMV.out]; exact HS9.out, by rw [HMV.out]; exact HG9.out⟩
                case measure => simp [intOf]; omega
    · have hke : ls.take k = ls := List.take_of_length_le (by omega)
      have hMe : M = movedZ b set ls := by rw [HM.out, hke]
      have HBF := hid (HBW.out.trans (HBR.out.mono HBW.out.size))
      have HFIN := hid (show ∃ A1' c1' AG' cG', Ending.returned (.tuple #[.slice A1 M.1.length c1, .slice AG M.2.length cG]) = .returned (.tuple #[.slice A1' (movedZ b set ls).1.length c1', .slice AG' (movedZ b set ls).2.length cG']) ∧ Below w.heap.size w wr ∧ RdI wr Any AG' cG' (movedZ b set ls).2 from ⟨A1, c1, AG, cG, by rw [hMe], HBF.out, by rw [← hMe]; exact HR2.out⟩)
      clear hke hMe
      go_wp2_with fail
      exact bodyPost_ret (v := .tuple #[.slice A1 M.1.length c1, .slice AG M.2.length cG]) (by simp [results, Try.results27, go_sem]) rfl HFIN.out
end Go.Proofs.Ythhknonaebnooaa
set_option linter.unusedVariables false
set_option linter.unusedSimpArgs false
namespace Go.Proofs.Ythhknonaebnooaa
open Go.RowKit

/-- Blocks other than the two that are written. -/
def ND (tb sb : Nat) : Dom := fun k => k ≠ tb ∧ k ≠ sb
/-- The sets and times by names below N. -/
structure RI (w : World) (tb sb N : Nat) (thn : Int → List Int) (snc : Int → Nat) : Prop where
  ne : tb ≠ sb
  sets : ∃ th : List Value, th.length = N ∧ w.heap[tb]? = some (.cells th.toArray 22 (0, 0)) ∧ ∀ v : Nat, v < N → ∃ A c, th[v]? = some (.slice A (thn v).length c) ∧ RdI w (ND tb sb) A c (thn v)
  times : w.heap[sb]? = some (.cells ((List.range N).map fun v : Nat => Value.int .i64 (snc (v : Int) : Int)).toArray 3 (0, 0))
def upd {α : Type} (f : Int → α) (g : Int) (r : α) : Int → α := fun v => if v = g then r else f v
section
variable {w w' : World} {tb sb N : Nat} {thn : Int → List Int} {snc : Int → Nat}
theorem RI.later (h : RI w tb sb N thn snc) (hb : Below w.heap.size w w') : RI w' tb sb N thn snc := by
  obtain ⟨th, h1, h2, h3⟩ := h.sets
  refine ⟨h.ne, ⟨th, h1, (hb.block _ (lt_of_block h2)).trans h2, fun v hv => ?_⟩, (hb.block _ (lt_of_block h.times)).trans h.times⟩
  obtain ⟨A, c, e1, e2⟩ := h3 v hv
  exact ⟨A, c, e1, ((e2.mono (E := fun k => k < w.heap.size ∧ ND tb sb k) fun k hk hl => ⟨hl, hk⟩).keep (Keeps.of_below hb fun _ h => h.1)).mono fun _ h _ => h.2⟩
theorem RI.get (h : RI w tb sb N thn snc) {v : Nat} (hv : v < N) : ∃ A c, w.cell? ⟨tb, v, none⟩ = some (.slice A (thn v).length c) ∧ RdI w (ND tb sb) A c (thn v) ∧ w.frozen? ⟨tb, v, none⟩ = false := by
  obtain ⟨th, h1, h2, h3⟩ := h.sets
  obtain ⟨A, c, e1, e2⟩ := h3 v hv
  exact ⟨A, c, block_cell h2 (by simpa using e1), e2, block_free h2⟩
theorem RI.time (h : RI w tb sb N thn snc) {v : Nat} (hv : v < N) : w.cell? ⟨sb, v, none⟩ = some (.int .i64 (snc v : Int)) ∧ w.frozen? ⟨sb, v, none⟩ = false :=
  ⟨block_cell h.times (by simp [hv]), block_free h.times⟩
theorem RI.lt (h : RI w tb sb N thn snc) : tb < w.heap.size ∧ sb < w.heap.size := by
  obtain ⟨th, h1, h2, h3⟩ := h.sets
  exact ⟨lt_of_block h2, lt_of_block h.times⟩
theorem RI.setT (h : RI w tb sb N thn snc) {v : Nat} (hv : v < N) {A : Option Addr} {c : Nat} {r : List Int} (hr : RdI w (ND tb sb) A c r) : RI (w.setCell ⟨tb, v, none⟩ (.slice A r.length c)) tb sb N (upd thn v r) snc := by
  obtain ⟨th, h1, h2, h3⟩ := h.sets
  have hk : Keeps (ND tb sb) w (w.setCell ⟨tb, v, none⟩ (.slice A r.length c)) := (Keeps.refl _ w).set (fun hh => hh.1 rfl) _
  refine ⟨h.ne, ⟨th.set v (.slice A r.length c), by rw [List.length_set]; exact h1, by rw [set_block h2]; simp, fun u hu => ?_⟩, (Below.heap_setCell _ _ _ _ (Ne.symm h.ne)).trans h.times⟩
  unfold upd
  by_cases e : u = v
  · subst e
    rw [if_pos rfl]
    exact ⟨A, c, by simp [h1, hu], hr.keep hk⟩
  · rw [if_neg (by omega)]
    obtain ⟨A', c', e1, e2⟩ := h3 u hu
    exact ⟨A', c', by rw [List.getElem?_set, if_neg (Ne.symm e)]; exact e1, e2.keep hk⟩
theorem RI.setS (h : RI w tb sb N thn snc) {v : Nat} (hv : v < N) (z : Nat) : RI (w.setCell ⟨sb, v, none⟩ (.int .i64 (z : Int))) tb sb N thn (upd snc v z) := by
  obtain ⟨th, h1, h2, h3⟩ := h.sets
  have hk : Keeps (ND tb sb) w (w.setCell ⟨sb, v, none⟩ (.int .i64 (z : Int))) := (Keeps.refl _ w).set (fun hh => hh.2 rfl) _
  refine ⟨h.ne, ⟨th, h1, (Below.heap_setCell _ _ _ _ h.ne).trans h2, fun u hu => ?_⟩, ?_⟩
  · obtain ⟨A', c', e1, e2⟩ := h3 u hu
    exact ⟨A', c', e1, e2.keep hk⟩
  · rw [set_block h.times]
    congr 2
    apply Array.toList_inj.1
    rw [Array.toList_setIfInBounds]
    apply List.ext_getElem
    · simp
    · intro j j1 j2
      rw [List.getElem_set]
      simp only [List.getElem_toArray, List.getElem_map, List.getElem_range]
      unfold upd
      by_cases e : v = j
      · subst e; simp
      · rw [if_neg e, if_neg (by omega)]
theorem RI.congr (h : RI w tb sb N thn snc) {thn' : Int → List Int} {snc' : Int → Nat} (h1 : ∀ v : Nat, v < N → thn' v = thn v) (h2 : ∀ v : Nat, v < N → snc' v = snc v) : RI w tb sb N thn' snc' := by
  obtain ⟨th, g1, g2, g3⟩ := h.sets
  refine ⟨h.ne, ⟨th, g1, g2, fun v hv => by rw [h1 v hv]; exact g3 v hv⟩, ?_⟩
  rw [h.times]
  congr 3
  refine List.map_congr_left fun v hv => ?_
  rw [h2 v (List.mem_range.1 hv)]
end
theorem thB_succ (B : List Int) (thn : Int → List Int) {k : Nat} (hk : k < B.length) (v : Int) : thB (B.take (k + 1)) thn v = upd (thB (B.take k) thn) (B.getD k 0) [] v := by
  unfold thB upd
  rw [take_succ_getD B 0 hk]
  by_cases e : v = B.getD k 0
  · rw [if_pos (inB_iff.2 (by rw [e]; simp)), if_pos e]
  · rw [if_neg e]
    have : inB (B.take k ++ [B.getD k 0]) v = inB (B.take k) v := by
      rw [Bool.eq_iff_iff, inB_iff, inB_iff, List.mem_append, List.mem_singleton]
      exact ⟨fun h => h.resolve_right e, .inl⟩
    rw [this]
theorem thG_succ (X : List Nd) (G : List Int) (thn : Int → List Int) {k : Nat} (hk : k < G.length) (v : Int) : thG X G (k + 1) thn v = upd (thG X G k thn) (G.getD k 0) (nset X (G.getD k 0)) v := by
  unfold thG upd
  rw [take_succ_getD G 0 hk]
  by_cases e : v = G.getD k 0
  · rw [if_pos (inB_iff.2 (by rw [e]; simp)), if_pos e, e]
  · rw [if_neg e]
    have : inB (G.take k ++ [G.getD k 0]) v = inB (G.take k) v := by
      rw [Bool.eq_iff_iff, inB_iff, inB_iff, List.mem_append, List.mem_singleton]
      exact ⟨fun h => h.resolve_right e, .inl⟩
    rw [this]
theorem snG_succ (G : List Int) (i : Nat) (snc : Int → Nat) {k : Nat} (hk : k < G.length) (v : Int) : snG G i (k + 1) snc v = upd (snG G i k snc) (G.getD k 0) (i + 1) v := by
  unfold snG upd
  rw [take_succ_getD G 0 hk]
  by_cases e : v = G.getD k 0
  · rw [if_pos (inB_iff.2 (by rw [e]; simp)), if_pos e]
  · rw [if_neg e]
    have : inB (G.take k ++ [G.getD k 0]) v = inB (G.take k) v := by
      rw [Bool.eq_iff_iff, inB_iff, inB_iff, List.mem_append, List.mem_singleton]
      exact ⟨fun h => h.resolve_right e, .inl⟩
    rw [this]
/-- A name that has not come up yet. -/
theorem strict_notin {G : List Int} (h : G.Pairwise (· < ·)) {k : Nat} (hk : k < G.length) : inB (G.take k) (G.getD k 0) = false := by
  refine Bool.eq_false_iff.2 fun hm => ?_
  have hm := inB_iff.1 hm
  obtain ⟨j, hj, e⟩ := List.getElem_of_mem hm
  rw [List.length_take] at hj
  rw [List.getElem_take] at e
  have := List.pairwise_iff_getElem.1 h j k (by omega) hk (by omega)
  have e2 : G.getD k 0 = G[k] := by simp [List.getD, hk]
  omega
end Go.Proofs.Ythhknonaebnooaa
