/-
  Walk of signal.Find and of typing's nodeError.
  Walk of typing.Formula.
-/
import Derived.Test.YtdakdpfofgkjoaaDoorZ30
import Derived.Test.YtdakdpfofgkjoaaDoorZ09
import Derived.Test.YtdakdpfofgkjoaaDoorZ31
import Derived.Test.YtdakdpfofgkjoaaDoorZ21
set_option linter.unusedVariables false
set_option linter.unusedSimpArgs false
namespace Go.Proofs.YtdakdpfofgkjoaaDoor
open Go.RowKit
attribute [local go_sem] cell_alloc_old

theorem findZ_none {l : List Sg} {s : ByteArray} (h : ∀ j, j < l.length → (l.getD j default).name ≠ s) : findZ l s = -1 := by
  unfold findZ
  rw [if_neg]
  have := findN_ge (l := l) (s := s) (Nat.le_refl _) h
  omega
theorem findN_is {l : List Sg} {s : ByteArray} {i : Nat} (hi : i < l.length) (h : (l.getD i default).name = s) (hm : ∀ j, j < i → (l.getD j default).name ≠ s) : findN l s = i := by
  have h1 := findN_le hi h
  have h2 := findN_ge (Nat.le_of_lt hi) hm
  omega
theorem findZ_is {l : List Sg} {s : ByteArray} {i : Nat} (hi : i < l.length) (h : (l.getD i default).name = s) (hm : ∀ j, j < i → (l.getD j default).name ≠ s) : findZ l s = (i : Int) := by
  unfold findZ
  rw [findN_is hi h hm, if_pos hi]
theorem beqI_t {a b : Int} (h : a = b) : (a == b) = true := by rw [h]; exact beq_self_eq_true b
theorem beqI_f {a b : Int} (h : a ≠ b) : (a == b) = false := by
  cases h' : a == b
  · rfl
  · exact absurd (by simpa using h') h
theorem bytes_ne {a b : ByteArray} (h : a ≠ b) : (a.toList == b.toList) = false := by
  cases hb : (a.toList == b.toList)
  · rfl
  · exact absurd (bytes_ext.1 hb) h
set_option maxRecDepth 100000 in
set_option maxHeartbeats 2000000 in
theorem sfind_any {D : Dom} (l : List Sg) (s : ByteArray) (A : Option Addr) (c n : Nat) (w : World) (hn : n = l.length) (h : RdG w D A c l) :
    Calls Tryd.prog 38 #[.slice A n c, .string s] w fun e w' => e = .returned (.int .i64 (findZ l s)) ∧ Below w.heap.size w w' := by
  subst hn
  have hlen := h.len.1
  have HH := hid h
  clear h
  go_enter Tryd.func38, Tryd.ntmps38
  go_wp2_with fail
  go_loopw [8] (fun q wr => ∃ i : Nat, i ≤ l.length ∧ q = .int .i64 (i : Int) ∧ SameW w wr ∧ Hid (∀ j, j < i → (l.getD j default).name ≠ s)) (fun q _ => l.length - (intOf q).toNat)
  case atStart => exact ⟨0, Nat.zero_le _, rfl, rfl, fun j h => absurd h (Nat.not_lt_zero _)⟩
  case round =>
    obtain ⟨i, hi, rfl, hw, HALL⟩ := hrel
    obtain rfl : w = wr := hw.symm
    by_cases hlt : i < l.length
    · have hii : (i : Int) < l.length := by omega
      obtain ⟨b, o, t, rfl, hlb, HX, x0, x1, x2⟩ := HH.out.get hlt
      have HNAME := hid (show (l.getD i default).name = t.name by rw [HX.out])
      clear HX
      by_cases ht : t.name = s
      · have d1 : (t.name.toList == s.toList) = true := bytes_ext.2 ht
        have HR := hid (findZ_is (s := s) hlt (by rw [HNAME.out]; exact ht) HALL.out)
        clear ht
        go_wp2_with fail
        go_ret
        exact ⟨ret_int HR.out.symm, Below.refl _ _⟩
      · have d1 : (t.name.toList == s.toList) = false := bytes_ne ht
        have HNE := hid ht
        clear ht
        go_wp2_with fail
        go_roundw
        case rel =>
          refine ⟨i + 1, by omega, by go_num, rfl, fun j hj => ?_⟩
          by_cases e : j = i
          · rw [e, HNAME.out]; exact HNE.out
          · exact HALL.out j (by omega)
        case measure => simp [intOf]; omega
    · have hii : ¬ (i : Int) < l.length := by omega
      have HR := hid (findZ_none (s := s) fun j hj => HALL.out j (by omega))
      go_wp2_with fail
      go_ret
      exact ⟨ret_int HR.out.symm, Below.refl _ _⟩
theorem nodeErr_is3 {l : List Sg} {f : Fm} (h : f.op = 3) : nodeErr l f = if findN l f.name < l.length then (if (l.getD (findN l f.name) default).size ≤ f.val then 71 else 0) else 70 := by
  unfold nodeErr
  rw [if_pos h]
theorem nodeErr_isP {l : List Sg} {f : Fm} (h : 15 ≤ f.op ∧ f.op ≤ 19) : nodeErr l f = if f.args.all (allB pastQ) then 0 else 72 := by
  unfold nodeErr pastOp
  rw [if_neg (by omega), decide_eq_true h.1, decide_eq_true h.2]; rfl
theorem nodeErr_no {l : List Sg} {f : Fm} (h3 : f.op ≠ 3) (h : ¬ (15 ≤ f.op ∧ f.op ≤ 19)) : nodeErr l f = 0 := by
  unfold nodeErr pastOp
  rw [if_neg h3, if_neg]
  rw [Bool.and_eq_true, decide_eq_true_eq, decide_eq_true_eq]; exact h
theorem all_getD {l : List Fm} {q : Fm → Bool} (h : ∀ j, j < l.length → q (l.getD j default) = true) : l.all q = true := by
  rw [List.all_eq_true]
  intro x hx
  obtain ⟨i, hi, rfl⟩ := List.getElem_of_mem hx
  have := h i hi
  simpa [List.getD, hi] using this
theorem all_not {l : List Fm} {q : Fm → Bool} {i : Nat} (hi : i < l.length) (h : q (l.getD i default) = false) : l.all q = false := by
  rw [List.all_eq_false]
  exact ⟨l.getD i default, by simp [List.getD, hi], by rw [h]; simp⟩
set_option maxRecDepth 100000 in
set_option maxHeartbeats 8000000 in
theorem nodeerr_any {D E : Dom} (l : List Sg) (A : Option Addr) (c n : Nat) (f : Fm) (b o : Nat) (A' : Option Addr) (c' : Nat) (w : World) (hn : n = l.length) (h : RdG w D A c l) (hf : HasF w E b o f A' c') (hg : GF w) (hd : f.depth ≤ 5000) :
    Calls Tryd.prog 25 #[.slice A n c, .pointer (some ⟨b, o, none⟩)] w fun e w' => e = .returned (.int .i64 (nodeErr l f)) ∧ Below w.heap.size w w' := by
  subst hn
  have hlen := h.len.1
  have HL := hid h.old
  have HF := hid hf.old
  have HG := hid hg
  have HD := hid hd
  obtain ⟨_, hlb, f0, f1, f2, f3, f4, _⟩ := hf
  clear h hg hd
  by_cases h3 : f.op = 3
  · have d3 := beqI_t h3
    have HR := hid (nodeErr_is3 (l := l) h3)
    clear h3
    by_cases hfn : findN l f.name < l.length
    · have hz : findZ l f.name = ((findN l f.name : Nat) : Int) := by unfold findZ; rw [if_pos hfn]
      have hcall := fun W (hb : Below w.heap.size w W) => sfind_any l f.name A c l.length W rfl (HL.out.any hb)
      rw [hz] at hcall
      have HC := hid hcall
      obtain ⟨k, hk⟩ : ∃ k, findN l f.name = k := ⟨_, rfl⟩
      rw [hk] at HC HR hfn
      clear hcall hz hk
      have hkl : (k : Int) < l.length := by omega
      have hk0 : ¬ (k : Int) < 0 := by omega
      rw [if_pos hfn] at HR
      obtain ⟨bg, og, s, rfl, hlg, HX, g0, g1, g2⟩ := HL.out.get hfn
      have HSZ := hid (show (l.getD k default).size = s.size by rw [HX.out])
      rw [HSZ.out] at HR
      clear HX
      by_cases hs : s.size ≤ f.val
      · rw [if_pos hs] at HR
        have ds : decide (s.size ≤ f.val) = true := decide_eq_true hs
        go_enter Tryd.func25, Tryd.ntmps25
        go_upto_region 6 with (go_at_call 38; (with_reducible refine (HC.out _ (by first | exact Below.refl _ _ | go_grown)).mono ?_); rintro e W2 ⟨rfl, hb2⟩; have k0 := (hb2.cell (p := ⟨bg, og + k * 3 + 2, none⟩) hlg).trans g2; have k2 := (hb2.cell (p := ⟨b, o + 2, none⟩) hlb).trans f2; have hl2 := Nat.lt_of_lt_of_le hlg hb2.size; have hl3 := Nat.lt_of_lt_of_le hlb hb2.size; have HB2 := hid hb2; clear hb2 g0 g1 g2 f0 f1 f2 f3 f4 hlg hlb)
        go_quiet (fail)
        go_wp2_with fail
        go_ret
        exact ⟨ret_int HR.out.symm, below_drewN HB2.out _⟩
      · rw [if_neg hs] at HR
        have ds : decide (s.size ≤ f.val) = false := decide_eq_false hs
        go_enter Tryd.func25, Tryd.ntmps25
        go_upto_region 6 with (go_at_call 38; (with_reducible refine (HC.out _ (by first | exact Below.refl _ _ | go_grown)).mono ?_); rintro e W2 ⟨rfl, hb2⟩; have k0 := (hb2.cell (p := ⟨bg, og + k * 3 + 2, none⟩) hlg).trans g2; have k2 := (hb2.cell (p := ⟨b, o + 2, none⟩) hlb).trans f2; have hl2 := Nat.lt_of_lt_of_le hlg hb2.size; have hl3 := Nat.lt_of_lt_of_le hlb hb2.size; have HB2 := hid hb2; clear hb2 g0 g1 g2 f0 f1 f2 f3 f4 hlg hlb)
        go_quiet (fail)
        go_wp2_with fail
        go_ret
        exact ⟨ret_int HR.out.symm, below_drewN HB2.out _⟩
    · rw [if_neg hfn] at HR
      have hz : findZ l f.name = -1 := by unfold findZ; rw [if_neg hfn]
      have hcall := fun W (hb : Below w.heap.size w W) => sfind_any l f.name A c l.length W rfl (HL.out.any hb)
      rw [hz] at hcall
      have HC := hid hcall
      clear hcall hz hfn
      go_enter Tryd.func25, Tryd.ntmps25
      go_wp2_with (go_at_call 38; (with_reducible refine (HC.out _ (by first | exact Below.refl _ _ | go_grown)).mono ?_); rintro e W2 ⟨rfl, hb2⟩; have HB2 := hid hb2; clear hb2)
      go_ret
      exact ⟨ret_int HR.out.symm, HB2.out⟩
  have d3 := beqI_f h3
  by_cases hp : 15 ≤ f.op ∧ f.op ≤ 19
  · have HR := hid (nodeErr_isP (l := l) hp)
    have hcs : f.op = 15 ∨ f.op = 16 ∨ f.op = 17 ∨ f.op = 18 ∨ f.op = 19 := by omega
    clear h3 hp
    rcases hcs with hop | hcs
    · have e15 := beqI_t (a := f.op) (b := 15) (by omega)
      clear hop
      go_enter Tryd.func25, Tryd.ntmps25
      go_wp2_with fail
      go_loopw [42] (fun q wr => ∃ i : Nat, i ≤ f.args.length ∧ q = .int .i64 (i : Int) ∧ Hid (Below w.heap.size w wr) ∧ Hid (∀ j, j < i → allB pastQ (f.args.getD j default) = true)) (fun q _ => f.args.length - (intOf q).toNat)
      case atStart => exact ⟨0, Nat.zero_le _, rfl, by first | exact Below.refl _ _ | go_grown, fun j h => absurd h (Nat.not_lt_zero _)⟩
      case round =>
        obtain ⟨i, hi, rfl, HB, HALL⟩ := hrel
        have y4 := (HB.out.cell (p := ⟨b, o + 4, none⟩) hlb).trans f4
        have HAR := hid (HF.out.args.any HB.out)
        have hly := Nat.lt_of_lt_of_le hlb HB.out.size
        have hal := HAR.out.len.1
        by_cases hlt : i < f.args.length
        · have hii : (i : Int) < f.args.length := by omega
          obtain ⟨b1, o1, A1, c1, g, rfl, HX, hg1⟩ := HAR.out.get hlt
          have HPA := hid (past_any g _ wr ⟨A1, c1, rfl, hg1.args⟩ (HG.out.below HB.out HG.out.pos) (by
            have h1 := arg_depth hlt
            rw [HX.out] at h1
            have := HD.out
            omega))
          obtain ⟨_, hl1, a0, a1, a2, a3, a4, _⟩ := hg1
          have HXX := hid HX.out
          clear HX
          cases hq : allB pastQ g
          · have HRR := hid (show nodeErr l f = 72 by rw [HR.out, all_not hlt (by rw [HXX.out]; exact hq)]; rfl)
            rw [hq] at HPA
            clear hq
            go_wp2_with (go_at_call 39; (with_reducible refine HPA.out.mono ?_); rintro e W2 ⟨rfl, hb2⟩; have HB2 := hid (HB.out.trans (hb2.mono HB.out.size)); clear hb2)
            go_ret
            exact ⟨ret_int HRR.out.symm, HB2.out⟩
          · have HQ := hid hq
            rw [hq] at HPA
            clear hq
            go_wp2_with (go_at_call 39; (with_reducible refine HPA.out.mono ?_); rintro e W2 ⟨rfl, hb2⟩; have HB2 := hid (HB.out.trans (hb2.mono HB.out.size)); clear hb2)
            go_roundw
            case rel =>
              refine ⟨i + 1, by omega, by go_num, HB2.out, fun j hj => ?_⟩
              by_cases e : j = i
              · rw [e, HXX.out]; exact HQ.out
              · exact HALL.out j (by omega)
            case measure => simp [intOf]; omega
        · have hii : ¬ (i : Int) < f.args.length := by omega
          have HRR := hid (show nodeErr l f = 0 by rw [HR.out, all_getD fun j hj => HALL.out j (by omega)]; rfl)
          go_wp2_with fail
          go_ret
          exact ⟨ret_int HRR.out.symm, HB.out⟩
    rcases hcs with hop | hcs
    · have e15 := beqI_f (a := f.op) (b := 15) (by omega)
      have e16 := beqI_t (a := f.op) (b := 16) (by omega)
      clear hop
      go_enter Tryd.func25, Tryd.ntmps25
      go_wp2_with fail
      go_loopw [42] (fun q wr => ∃ i : Nat, i ≤ f.args.length ∧ q = .int .i64 (i : Int) ∧ Hid (Below w.heap.size w wr) ∧ Hid (∀ j, j < i → allB pastQ (f.args.getD j default) = true)) (fun q _ => f.args.length - (intOf q).toNat)
      case atStart => exact ⟨0, Nat.zero_le _, rfl, by first | exact Below.refl _ _ | go_grown, fun j h => absurd h (Nat.not_lt_zero _)⟩
      case round =>
        obtain ⟨i, hi, rfl, HB, HALL⟩ := hrel
        have y4 := (HB.out.cell (p := ⟨b, o + 4, none⟩) hlb).trans f4
        have HAR := hid (HF.out.args.any HB.out)
        have hly := Nat.lt_of_lt_of_le hlb HB.out.size
        have hal := HAR.out.len.1
        by_cases hlt : i < f.args.length
        · have hii : (i : Int) < f.args.length := by omega
          obtain ⟨b1, o1, A1, c1, g, rfl, HX, hg1⟩ := HAR.out.get hlt
          have HPA := hid (past_any g _ wr ⟨A1, c1, rfl, hg1.args⟩ (HG.out.below HB.out HG.out.pos) (by
            have h1 := arg_depth hlt
            rw [HX.out] at h1
            have := HD.out
            omega))
          obtain ⟨_, hl1, a0, a1, a2, a3, a4, _⟩ := hg1
          have HXX := hid HX.out
          clear HX
          cases hq : allB pastQ g
          · have HRR := hid (show nodeErr l f = 72 by rw [HR.out, all_not hlt (by rw [HXX.out]; exact hq)]; rfl)
            rw [hq] at HPA
            clear hq
            go_wp2_with (go_at_call 39; (with_reducible refine HPA.out.mono ?_); rintro e W2 ⟨rfl, hb2⟩; have HB2 := hid (HB.out.trans (hb2.mono HB.out.size)); clear hb2)
            go_ret
            exact ⟨ret_int HRR.out.symm, HB2.out⟩
          · have HQ := hid hq
            rw [hq] at HPA
            clear hq
            go_wp2_with (go_at_call 39; (with_reducible refine HPA.out.mono ?_); rintro e W2 ⟨rfl, hb2⟩; have HB2 := hid (HB.out.trans (hb2.mono HB.out.size)); clear hb2)
            go_roundw
            case rel =>
              refine ⟨i + 1, by omega, by go_num, HB2.out, fun j hj => ?_⟩
              by_cases e : j = i
              · rw [e, HXX.out]; exact HQ.out
              · exact HALL.out j (by omega)
            case measure => simp [intOf]; omega
        · have hii : ¬ (i : Int) < f.args.length := by omega
          have HRR := hid (show nodeErr l f = 0 by rw [HR.out, all_getD fun j hj => HALL.out j (by omega)]; rfl)
          go_wp2_with fail
          go_ret
          exact ⟨ret_int HRR.out.symm, HB.out⟩
    rcases hcs with hop | hcs
    · have e15 := beqI_f (a := f.op) (b := 15) (by omega)
      have e16 := beqI_f (a := f.op) (b := 16) (by omega)
      have e17 := beqI_t (a := f.op) (b := 17) (by omega)
      clear hop
      go_enter Tryd.func25, Tryd.ntmps25
      go_wp2_with fail
      go_loopw [42] (fun q wr => ∃ i : Nat, i ≤ f.args.length ∧ q = .int .i64 (i : Int) ∧ Hid (Below w.heap.size w wr) ∧ Hid (∀ j, j < i → allB pastQ (f.args.getD j default) = true)) (fun q _ => f.args.length - (intOf q).toNat)
      case atStart => exact ⟨0, Nat.zero_le _, rfl, by first | exact Below.refl _ _ | go_grown, fun j h => absurd h (Nat.not_lt_zero _)⟩
      case round =>
        obtain ⟨i, hi, rfl, HB, HALL⟩ := hrel
        have y4 := (HB.out.cell (p := ⟨b, o + 4, none⟩) hlb).trans f4
        have HAR := hid (HF.out.args.any HB.out)
        have hly := Nat.lt_of_lt_of_le hlb HB.out.size
        have hal := HAR.out.len.1
        by_cases hlt : i < f.args.length
        · have hii : (i : Int) < f.args.length := by omega
          obtain ⟨b1, o1, A1, c1, g, rfl, HX, hg1⟩ := HAR.out.get hlt
          have HPA := hid (past_any g _ wr ⟨A1, c1, rfl, hg1.args⟩ (HG.out.below HB.out HG.out.pos) (by
            have h1 := arg_depth hlt
            rw [HX.out] at h1
            have := HD.out
            omega))
          obtain ⟨_, hl1, a0, a1, a2, a3, a4, _⟩ := hg1
          have HXX := hid HX.out
          clear HX
          cases hq : allB pastQ g
          · have HRR := hid (show nodeErr l f = 72 by rw [HR.out, all_not hlt (by rw [HXX.out]; exact hq)]; rfl)
            rw [hq] at HPA
            clear hq
            go_wp2_with (go_at_call 39; (with_reducible refine HPA.out.mono ?_); rintro e W2 ⟨rfl, hb2⟩; have HB2 := hid (HB.out.trans (hb2.mono HB.out.size)); clear hb2)
            go_ret
            exact ⟨ret_int HRR.out.symm, HB2.out⟩
          · have HQ := hid hq
            rw [hq] at HPA
            clear hq
            go_wp2_with (go_at_call 39; (with_reducible refine HPA.out.mono ?_); rintro e W2 ⟨rfl, hb2⟩; have HB2 := hid (HB.out.trans (hb2.mono HB.out.size)); clear hb2)
            go_roundw
            case rel =>
              refine ⟨i + 1, by omega, by go_num, HB2.out, fun j hj => ?_⟩
              by_cases e : j = i
              · rw [e, HXX.out]; exact HQ.out
              · exact HALL.out j (by omega)
            case measure => simp [intOf]; omega
        · have hii : ¬ (i : Int) < f.args.length := by omega
          have HRR := hid (show nodeErr l f = 0 by rw [HR.out, all_getD fun j hj => HALL.out j (by omega)]; rfl)
          go_wp2_with fail
          go_ret
          exact ⟨ret_int HRR.out.symm, HB.out⟩
    rcases hcs with hop | hop
    · have e15 := beqI_f (a := f.op) (b := 15) (by omega)
      have e16 := beqI_f (a := f.op) (b := 16) (by omega)
      have e17 := beqI_f (a := f.op) (b := 17) (by omega)
      have e18 := beqI_t (a := f.op) (b := 18) (by omega)
      clear hop
      go_enter Tryd.func25, Tryd.ntmps25
      go_wp2_with fail
      go_loopw [42] (fun q wr => ∃ i : Nat, i ≤ f.args.length ∧ q = .int .i64 (i : Int) ∧ Hid (Below w.heap.size w wr) ∧ Hid (∀ j, j < i → allB pastQ (f.args.getD j default) = true)) (fun q _ => f.args.length - (intOf q).toNat)
      case atStart => exact ⟨0, Nat.zero_le _, rfl, by first | exact Below.refl _ _ | go_grown, fun j h => absurd h (Nat.not_lt_zero _)⟩
      case round =>
        obtain ⟨i, hi, rfl, HB, HALL⟩ := hrel
        have y4 := (HB.out.cell (p := ⟨b, o + 4, none⟩) hlb).trans f4
        have HAR := hid (HF.out.args.any HB.out)
        have hly := Nat.lt_of_lt_of_le hlb HB.out.size
        have hal := HAR.out.len.1
        by_cases hlt : i < f.args.length
        · have hii : (i : Int) < f.args.length := by omega
          obtain ⟨b1, o1, A1, c1, g, rfl, HX, hg1⟩ := HAR.out.get hlt
          have HPA := hid (past_any g _ wr ⟨A1, c1, rfl, hg1.args⟩ (HG.out.below HB.out HG.out.pos) (by
            have h1 := arg_depth hlt
            rw [HX.out] at h1
            have := HD.out
            omega))
          obtain ⟨_, hl1, a0, a1, a2, a3, a4, _⟩ := hg1
          have HXX := hid HX.out
          clear HX
          cases hq : allB pastQ g
          · have HRR := hid (show nodeErr l f = 72 by rw [HR.out, all_not hlt (by rw [HXX.out]; exact hq)]; rfl)
            rw [hq] at HPA
            clear hq
            go_wp2_with (go_at_call 39; (with_reducible refine HPA.out.mono ?_); rintro e W2 ⟨rfl, hb2⟩; have HB2 := hid (HB.out.trans (hb2.mono HB.out.size)); clear hb2)
            go_ret
            exact ⟨ret_int HRR.out.symm, HB2.out⟩
          · have HQ := hid hq
            rw [hq] at HPA
            clear hq
            go_wp2_with (go_at_call 39; (with_reducible refine HPA.out.mono ?_); rintro e W2 ⟨rfl, hb2⟩; have HB2 := hid (HB.out.trans (hb2.mono HB.out.size)); clear hb2)
            go_roundw
            case rel =>
              refine ⟨i + 1, by omega, by go_num, HB2.out, fun j hj => ?_⟩
              by_cases e : j = i
              · rw [e, HXX.out]; exact HQ.out
              · exact HALL.out j (by omega)
            case measure => simp [intOf]; omega
        · have hii : ¬ (i : Int) < f.args.length := by omega
          have HRR := hid (show nodeErr l f = 0 by rw [HR.out, all_getD fun j hj => HALL.out j (by omega)]; rfl)
          go_wp2_with fail
          go_ret
          exact ⟨ret_int HRR.out.symm, HB.out⟩
    · have e15 := beqI_f (a := f.op) (b := 15) (by omega)
      have e16 := beqI_f (a := f.op) (b := 16) (by omega)
      have e17 := beqI_f (a := f.op) (b := 17) (by omega)
      have e18 := beqI_f (a := f.op) (b := 18) (by omega)
      have e19 := beqI_t (a := f.op) (b := 19) (by omega)
      clear hop
      go_enter Tryd.func25, Tryd.ntmps25
      go_wp2_with fail
      go_loopw [42] (fun q wr => ∃ i : Nat, i ≤ f.args.length ∧ q = .int .i64 (i : Int) ∧ Hid (Below w.heap.size w wr) ∧ Hid (∀ j, j < i → allB pastQ (f.args.getD j default) = true)) (fun q _ => f.args.length - (intOf q).toNat)
      case atStart => exact ⟨0, Nat.zero_le _, rfl, by first | exact Below.refl _ _ | go_grown, fun j h => absurd h (Nat.not_lt_zero _)⟩
      case round =>
        obtain ⟨i, hi, rfl, HB, HALL⟩ := hrel
        have y4 := (HB.out.cell (p := ⟨b, o + 4, none⟩) hlb).trans f4
        have HAR := hid (HF.out.args.any HB.out)
        have hly := Nat.lt_of_lt_of_le hlb HB.out.size
        have hal := HAR.out.len.1
        by_cases hlt : i < f.args.length
        · have hii : (i : Int) < f.args.length := by omega
          obtain ⟨b1, o1, A1, c1, g, rfl, HX, hg1⟩ := HAR.out.get hlt
          have HPA := hid (past_any g _ wr ⟨A1, c1, rfl, hg1.args⟩ (HG.out.below HB.out HG.out.pos) (by
            have h1 := arg_depth hlt
            rw [HX.out] at h1
            have := HD.out
            omega))
          obtain ⟨_, hl1, a0, a1, a2, a3, a4, _⟩ := hg1
          have HXX := hid HX.out
          clear HX
          cases hq : allB pastQ g
          · have HRR := hid (show nodeErr l f = 72 by rw [HR.out, all_not hlt (by rw [HXX.out]; exact hq)]; rfl)
            rw [hq] at HPA
            clear hq
            go_wp2_with (go_at_call 39; (with_reducible refine HPA.out.mono ?_); rintro e W2 ⟨rfl, hb2⟩; have HB2 := hid (HB.out.trans (hb2.mono HB.out.size)); clear hb2)
            go_ret
            exact ⟨ret_int HRR.out.symm, HB2.out⟩
          · have HQ := hid hq
            rw [hq] at HPA
            clear hq
            go_wp2_with (go_at_call 39; (with_reducible refine HPA.out.mono ?_); rintro e W2 ⟨rfl, hb2⟩; have HB2 := hid (HB.out.trans (hb2.mono HB.out.size)); clear hb2)
            go_roundw
            case rel =>
              refine ⟨i + 1, by omega, by go_num, HB2.out, fun j hj => ?_⟩
              by_cases e : j = i
              · rw [e, HXX.out]; exact HQ.out
              · exact HALL.out j (by omega)
            case measure => simp [intOf]; omega
        · have hii : ¬ (i : Int) < f.args.length := by omega
          have HRR := hid (show nodeErr l f = 0 by rw [HR.out, all_getD fun j hj => HALL.out j (by omega)]; rfl)
          go_wp2_with fail
          go_ret
          exact ⟨ret_int HRR.out.symm, HB.out⟩
  · have HR := hid (nodeErr_no (l := l) h3 hp)
    have e15 := beqI_f (a := f.op) (b := 15) (by omega)
    have e16 := beqI_f (a := f.op) (b := 16) (by omega)
    have e17 := beqI_f (a := f.op) (b := 17) (by omega)
    have e18 := beqI_f (a := f.op) (b := 18) (by omega)
    have e19 := beqI_f (a := f.op) (b := 19) (by omega)
    clear h3 hp
    go_enter Tryd.func25, Tryd.ntmps25
    go_wp2_with fail
    go_ret
    exact ⟨ret_int HR.out.symm, by first | exact Below.refl _ _ | go_grown⟩
end Go.Proofs.YtdakdpfofgkjoaaDoor
set_option linter.unusedVariables false
set_option linter.unusedSimpArgs false
namespace Go.Proofs.YtdakdpfofgkjoaaDoor
open Go.RowKit Go.Shelf
attribute [local go_sem] cell_alloc_old Oper.semAt_some

theorem errL_first (l : List Sg) : ∀ {L : List (Fm × Bool)} {k : Nat}, k < L.length → (∀ j, j < k → nodeErr l (L.getD j default).1 = 0) → nodeErr l (L.getD k default).1 ≠ 0 → errL l L = nodeErr l (L.getD k default).1
  | [], k, h, _, _ => absurd h (Nat.not_lt_zero _)
  | x :: r, 0, _, _, hn => by
    rw [errL, if_neg]
    · rfl
    · exact hn
  | x :: r, k + 1, hk, h, hn => by
    have h0 := h 0 (Nat.succ_pos _)
    have h0 : nodeErr l x.1 = 0 := h0
    rw [errL, if_pos h0, List.getD_cons_succ]
    rw [List.getD_cons_succ] at hn
    refine errL_first l (by simpa using hk) (fun j hj => ?_) hn
    have := h (j + 1) (by omega)
    rw [List.getD_cons_succ] at this
    exact this
theorem preLs_mem {ins : Bool} {x : Fm × Bool} : ∀ {l : List Fm}, x ∈ preLs ins l → ∃ g, g ∈ l ∧ x ∈ preL ins g
  | [], h => by cases h
  | g :: l, h => by
    simp only [preLs, List.mem_append] at h
    rcases h with h | h
    · exact ⟨g, by simp, h⟩
    · obtain ⟨g', h1, h2⟩ := preLs_mem h
      exact ⟨g', by simp [h1], h2⟩
theorem node_depth (f : Fm) : ∀ (ins : Bool) (x : Fm × Bool), x ∈ preL ins f → x.1.depth ≤ f.depth := by
  refine Fm.induct (P := fun f => ∀ (ins : Bool) (x : Fm × Bool), x ∈ preL ins f → x.1.depth ≤ f.depth) ?_ f
  intro f ih ins x hx
  rw [preL_eq, List.mem_cons] at hx
  rcases hx with rfl | hx
  · exact Nat.le_refl _
  · obtain ⟨g, hg, hx⟩ := preLs_mem hx
    obtain ⟨i, hi, rfl⟩ := List.getElem_of_mem hg
    have e : f.args.getD i default = f.args[i] := by simp [List.getD, hi]
    have h1 := ih i hi _ x (by rw [e]; exact hx)
    have h2 := arg_depth hi
    omega
set_option maxRecDepth 100000 in
set_option maxHeartbeats 4000000 in
theorem typform_any {D E : Dom} (l : List Sg) (AS : Option Addr) (cS n : Nat) (f : Fm) (v : Value) (w : World) (hn : n = l.length) (hl : RdG w D AS cS l) (h : RdF3 w E v f) (hg : GF w) (hk : GK w) :
    Calls Tryd.prog 9 #[.slice AS n cS, v] w fun e w' => e = .returned (.int .i64 (formErr l f)) ∧ Below w.heap.size w w' := by
  subst hn
  obtain ⟨A, c, rfl, ha⟩ := h
  have HL := hid hl.old
  have HA := hid ha.old
  have HG := hid hg
  have HK := hid hk
  have hlen := hl.len.1
  clear hl ha hg hk
  refine (callsIn_wide (n := 3)).1 (callsIn_of_wp_marks Tryd.func9 rfl trivial ?_ rfl)
  simp only [Tryd.ntmps9, List.size_toArray, List.length_cons, List.length_nil, Nat.reduceAdd, Nat.reduceSub, Array.replicate_succ, Array.replicate_zero, List.push_toArray, List.append_toArray, List.nil_append, List.cons_append]
  refine wpIn_wide.2 ?_
  go_upto_region 1 with (fail)
  refine wp_gen fun W hW => ?_
  have hb : Below w.heap.size w W := by rw [hW]; go_grown
  have eS : W.heap[w.heap.size]? = some (.cells #[.slice AS l.length cS] 22 (0, 0)) := by rw [hW, at_old _ _ _ (by simp; omega), at_old _ _ _ (by simp)]; exact at_new _ _ _ rfl
  have e0 : Box5 W (w.heap.size + 1) f A c := by
    show W.heap[w.heap.size + 1]? = _
    rw [hW, at_old _ _ _ (by simp)]; exact at_new _ _ _ (by simp)
  have e1 : W.heap[w.heap.size + 2]? = some (.cells #[.int .i64 0] 31 (0, 0)) := by rw [hW]; exact at_new _ _ _ (by simp)
  have HB := hid hb
  have HES := hid eS
  have HE0 := hid e0
  have HE1 := hid e1
  have HS := hid (show w.heap.size + 3 ≤ W.heap.size by rw [hW]; simp)
  clear hW hb eS e0 e1
  have s0 := block_cell HES.out (i := 0) rfl
  have s1 := lt_of_block HES.out
  have HSV := hid (svalid_any l AS cS l.length W rfl (HL.out.any HB.out) (HK.out.below HB.out HK.out.pos))
  cases hv : validS l
  · have HR := hid (show formErr l f = 1 by unfold formErr; rw [hv]; rfl)
    rw [hv] at HSV
    clear hv
    go_wp2_with (first | (go_at_call 10; refine HSV.out.mono ?_; rintro e V ⟨rfl, hbV⟩; have q0 := (hbV.block _ (lt_of_block HE1.out)).trans HE1.out; have r0 := block_cell q0 (i := 0) rfl; have r1 := block_free q0 (i := 0); have r2 := lt_of_block q0))
    have q1 : (V.setCell ⟨w.heap.size + 2, 0, none⟩ (.int .i64 1)).heap[w.heap.size + 2]? = some (.cells #[.int .i64 1] 31 (0, 0)) := by rw [set_block q0]; rfl
    have q2 := block_cell q1 (i := 0) rfl
    refine marks_ret0 rfl (v := .int .i64 1) ?_ ⟨by rw [HR.out], (HB.out.trans (hbV.mono HB.out.size)).setCell (p := ⟨w.heap.size + 2, 0, none⟩) (by simp) _⟩
    simp [results, Tryd.results9, go_sem, q2]
  rw [hv] at HSV
  have HVS := hid hv
  clear hv
  have HRD := hid (fun (V : World) (hb : Below W.heap.size W V) => (show RdF3 V AnyD (.agg #[.int .i64 f.op, .string f.name, .int .i64 f.val, .int .i64 f.bound, .slice A f.args.length c]) f from ⟨A, c, rfl, HA.out.any (HB.out.trans (hb.mono HB.out.size)) |>.mono fun _ _ _ => trivial⟩))
  have HG1 := hid (fun (V : World) (hb : Below W.heap.size W V) => HG.out.below (HB.out.trans (hb.mono HB.out.size)) HG.out.pos)
  have HK1 := hid (fun (V : World) (hb : Below W.heap.size W V) => HK.out.below (HB.out.trans (hb.mono HB.out.size)) HK.out.pos)
  have HFV : Hid (∀ V : World, Below W.heap.size W V → Calls Tryd.prog 23 #[.agg #[.int .i64 f.op, .string f.name, .int .i64 f.val, .int .i64 f.bound, .slice A f.args.length c]] V fun e w' => e = .returned (.bool (validB f)) ∧ Below V.heap.size V w') := hid fun V hb => valid_any f _ V (HRD.out V hb) (HG1.out V hb) (HK1.out V hb)
  cases hf : validB f
  · have HR := hid (show formErr l f = 30 by unfold formErr; rw [HVS.out, hf]; rfl)
    rw [hf] at HFV
    clear hf
    go_wp2_with (first | (go_at_call 10; refine HSV.out.mono ?_; rintro e V ⟨rfl, hbV⟩; have HBV := hid hbV; obtain ⟨b0, b1, b2, b3, b4, b5⟩ := (HE0.out.below hbV).cells; clear hbV) | (go_at_call 23; refine (HFV.out _ HBV.out).mono ?_; rintro e V2 ⟨rfl, hb2⟩; have HB2 := hid (HBV.out.trans (hb2.mono HBV.out.size)); have q0 := (HB2.out.block _ (lt_of_block HE1.out)).trans HE1.out; have r0 := block_cell q0 (i := 0) rfl; have r1 := block_free q0 (i := 0); have r2 := lt_of_block q0; clear hb2))
    have q1 : (V2.setCell ⟨w.heap.size + 2, 0, none⟩ (.int .i64 30)).heap[w.heap.size + 2]? = some (.cells #[.int .i64 30] 31 (0, 0)) := by rw [set_block q0]; rfl
    have q2 := block_cell q1 (i := 0) rfl
    refine marks_ret0 rfl (v := .int .i64 30) ?_ ⟨by rw [HR.out], (HB.out.trans (HB2.out.mono HB.out.size)).setCell (p := ⟨w.heap.size + 2, 0, none⟩) (by simp) _⟩
    simp [results, Tryd.results9, go_sem, q2]
  have HFT := hid hf
  have HD := hid (show f.depth ≤ 20 by unfold validB at hf; rw [Bool.and_eq_true, fits_true] at hf; omega)
  rw [hf] at HFV
  clear hf
  go_wp2_with (first | (go_at_call 10; refine HSV.out.mono ?_; rintro e V ⟨rfl, hbV⟩; have HBV := hid hbV; obtain ⟨b0, b1, b2, b3, b4, b5⟩ := (HE0.out.below hbV).cells; clear hbV) | (go_at_call 23; refine (HFV.out _ HBV.out).mono ?_; rintro e V2 ⟨rfl, hb2⟩; have HB2 := hid (HBV.out.trans (hb2.mono HBV.out.size)); clear hb2 b0 b1 b2 b3 b4 b5) | (go_at_call 24; refine (nodesT_any _ V2).mono ?_; rintro e w2 ⟨rfl, rfl⟩))
  refine wp_gen fun W2 hW2 => ?_
  have hb2 : Below V2.heap.size V2 W2 := by rw [hW2]; go_grown
  have hp2 : W2.cell? ⟨V2.heap.size, 0, none⟩ = some (.pointer (some ⟨w.heap.size + 1, 0, none⟩)) := by rw [hW2]; exact block_cell (at_new _ _ _ rfl) (i := 0) rfl
  have HBW := hid (HB2.out.trans (hb2.mono HB2.out.size))
  have HS2 := hid (Nat.le_trans HS.out HBW.out.size)
  have HP := hid hp2
  have HE0' := hid (HE0.out.below HBW.out)
  have HE1' := hid ((HBW.out.block _ (lt_of_block HE1.out)).trans HE1.out)
  have HES' := hid ((HBW.out.block _ (lt_of_block HES.out)).trans HES.out)
  have HBw := hid (HB.out.trans (HBW.out.mono HB.out.size))
  have HF := hid (Box5.hasF (D := (· < w.heap.size + 2)) HE0'.out (Nat.lt_succ_self _) ((HA.out.keep (Keeps.of_below HBw.out fun _ h => h)).mono fun k hk _ => by have : k < w.heap.size := hk; omega))
  clear hW2 hb2 hp2 s0 s1 HSV HFV HRD
  refine range_nodesT f (w.heap.size + 1) 0 V2.heap.size (w.heap.size + 2) A c (fun b => b = w.heap.size + 2)
    (fun k W' => allTo (errQ l) f k ∧ W'.heap[w.heap.size + 2]? = some (.cells #[.int .i64 0] 31 (0, 0)))
    (fun c W' => c = .ret ∧ errL l (preL false f) ≠ 0 ∧ W'.heap[w.heap.size + 2]? = some (.cells #[.int .i64 (errL l (preL false f))] 31 (0, 0)))
    rfl rfl HF.out (by omega) (by have := HS2.out; omega) HP.out ?hZ ?hI ?hIx ⟨allTo_zero _ _, HE1'.out⟩ ?a1 ?hassign ?hround ?hdone ?hstop
  case hassign =>
    intro l p W K hK
    gi_wp2
    exact hK
  case hZ => intro b hb; have := HS2.out; omega
  case hI => rintro k W3 W4 ⟨h1, h2⟩ hc; exact ⟨h1, hc.box h2 (by have := HS2.out; omega)⟩
  case hIx => rintro c W3 W4 ⟨h0, h1, h2⟩ hc; exact ⟨h0, h1, hc.box h2 (by have := HS2.out; omega)⟩
  case hround =>
    rintro lr k W3 b o A' c' hs3 hc3 ⟨hk1, hk2⟩ hlenk hf3
    have hB3 : Below w.heap.size w W3 := HBw.out.trans (hc3.below (B := w.heap.size) (fun b hb => by omega) HBw.out.size)
    have hdn : ((preL false f).getD k default).1.depth ≤ 5000 := by
      have := node_depth f false _ (getD_mem' hlenk)
      have := HD.out
      omega
    have hcall := nodeerr_any l AS cS l.length ((preL false f).getD k default).1 b o A' c' W3 rfl (HL.out.any hB3) hf3 (HG.out.below hB3 HG.out.pos) hdn
    have q2 := hc3.box HES'.out (show w.heap.size ≠ w.heap.size + 2 by omega)
    have c0 := block_cell q2 (i := 0) rfl
    have c1 := lt_of_block q2
    have HK1' := hid hk1
    have HK2 := hid hk2
    have HLEN := hid hlenk
    have r0 := block_cell hk2 (i := 0) rfl
    have r1 := block_free hk2 (i := 0)
    have r2 := lt_of_block hk2
    clear hk1 hk2 hlenk q2 hf3 hB3 hdn
    have hfn1 : Fence.wide.fn 25 := trivial
    have hfd : Fence.wide.depth = none := rfl
    obtain ⟨ne, hne⟩ : ∃ ne, nodeErr l ((preL false f).getD k default).1 = ne := ⟨_, rfl⟩
    rw [hne] at hcall
    have HNE := hid hne
    clear hne
    by_cases h0 : ne = 0
    · rw [h0] at hcall HNE
      clear h0
      gi_wp2_with (gi_at_call 25; refine (CallsIn.inRound lr (callsIn_wide.2 hcall)).mono ?_; rintro e W4 ⟨rfl, hb4⟩; have q0 := (hb4.block _ (lt_of_block HK2.out)).trans HK2.out)
      exact ⟨Chg.of_new (V := fun b => b = w.heap.size + 2) hb4, allTo_succ HK1'.out (decide_eq_true HNE.out), q0⟩
    · have hb0 : (ne != 0) = true := bne_iff_ne.2 h0
      have HEF := hid (show errL l (preL false f) = ne by
        rw [← HNE.out]
        exact errL_first l HLEN.out (fun j hj => of_decide_eq_true (HK1'.out j hj)) (by rw [HNE.out]; exact h0))
      have HN0 := hid h0
      clear h0
      gi_wp2_with (gi_at_call 25; refine (CallsIn.inRound lr (callsIn_wide.2 hcall)).mono ?_; rintro e W4 ⟨rfl, hb4⟩; have q0 := (hb4.block _ (lt_of_block HK2.out)).trans HK2.out; have r0 := block_cell q0 (i := 0) rfl; have r1 := block_free q0 (i := 0); have r2 := lt_of_block q0)
      refine ⟨(Chg.of_new (V := fun b => b = w.heap.size + 2) hb4).set ⟨w.heap.size + 2, 0, none⟩ (.int .i64 ne) (fun _ => rfl), rfl, by rw [HEF.out]; exact HN0.out, ?_⟩
      rw [set_block q0, HEF.out]
      rfl
  case hdone =>
    rintro W3 hc ⟨h1, h2⟩ hD3
    have HE := hid (show errL l (preL false f) = 0 from (errL_zero l _).2 (allB_true h1))
    have hB3 : Below w.heap.size w W3 := HBw.out.trans (hc.below (B := w.heap.size) (fun b hb => by omega) HBw.out.size)
    have hb5 : Box5 W3 (w.heap.size + 1) f A c := hc.box HE0'.out (show w.heap.size + 1 ≠ w.heap.size + 2 by omega)
    obtain ⟨b0, b1, b2, b3, b4, b5⟩ := hb5.cells
    have hker := kernel_any f _ W3 ⟨A, c, rfl, HA.out.any hB3⟩ (HG.out.below hB3 HG.out.pos) (HK.out.below hB3 HK.out.pos)
    have HB3 := hid hB3
    have HK2 := hid h2
    have HD3 := hid hD3
    clear hB3 h1 h2 hD3 hb5
    obtain ⟨r, hr⟩ : ∃ r, (kernZ f).2 = r := ⟨_, rfl⟩
    rw [hr] at hker
    have HR := hid hr
    clear hr
    dsimp only
    by_cases hr0 : r = 0
    · have HF0 := hid (show formErr l f = 0 by unfold formErr; rw [HVS.out, HFT.out, if_pos rfl, if_pos rfl, if_pos HE.out, HR.out, if_pos hr0])
      rw [hr0] at hker
      clear hr0
      go_wp2_with (go_at_call 14; refine hker.mono ?_; rintro e W4 ⟨kv, rfl, hb4, A4, c4, rfl, _⟩; have HB4 := hid hb4; have q0 := (hb4.block _ (lt_of_block HK2.out)).trans HK2.out; have r0 := block_cell q0 (i := 0) rfl; have r1 := block_free q0 (i := 0); have r2 := lt_of_block q0; have HQ0 := hid q0; have HD4 := hid ((hb4.block _ (lt_of_block HD3.out)).trans HD3.out); clear hb4 q0)
      have hDl := lt_of_block HD4.out
      have hne : W2.heap.size ≠ w.heap.size + 2 := by have := HS2.out; omega
      have hD5 : ((W4.setCell ⟨w.heap.size + 2, 0, none⟩ (.int .i64 0)).alloc (.cells #[.int .i64 (kernZ f).1.op, .string (kernZ f).1.name, .int .i64 (kernZ f).1.val, .int .i64 (kernZ f).1.bound, .slice A4 (kernZ f).1.args.length c4] 25)).heap[W2.heap.size]? = some (.deferred (some [])) := by
        rw [at_old _ _ _ (by simpa using hDl)]
        exact (at_set (w := W4) (p := ⟨w.heap.size + 2, 0, none⟩) (u := .int .i64 0) hne).trans HD4.out
      have e5 : ((W4.setCell ⟨w.heap.size + 2, 0, none⟩ (.int .i64 0)).alloc (.cells #[.int .i64 (kernZ f).1.op, .string (kernZ f).1.name, .int .i64 (kernZ f).1.val, .int .i64 (kernZ f).1.bound, .slice A4 (kernZ f).1.args.length c4] 25)).heap[w.heap.size + 2]? = some (.cells #[.int .i64 0] 31 (0, 0)) := by
        rw [at_old _ _ _ (by simpa using r2), set_block HQ0.out]; rfl
      have hc5 : Below w.heap.size w ((W4.setCell ⟨w.heap.size + 2, 0, none⟩ (.int .i64 0)).alloc (.cells #[.int .i64 (kernZ f).1.op, .string (kernZ f).1.name, .int .i64 (kernZ f).1.val, .int .i64 (kernZ f).1.bound, .slice A4 (kernZ f).1.args.length c4] 25)) :=
        ((HB3.out.trans (HB4.out.mono HB3.out.size)).setCell (p := ⟨w.heap.size + 2, 0, none⟩) (by simp) (.int .i64 0)).alloc (by have := HB3.out.size; have := HB4.out.size; simp; omega) _
      refine marks_ret rfl hD5 (v := .int .i64 0) (fun w' hc' => ?_) (fun w' hc' => ⟨by rw [HF0.out], hc5.trans (hc'.below (fun b hb => by have := HS2.out; omega) hc5.size)⟩)
      have := block_cell (hc'.box e5 (show w.heap.size + 2 ≠ W2.heap.size from fun e => hne e.symm)) (i := 0) rfl
      simp [results, Tryd.results9, go_sem, this]
    · have HF0 := hid (show formErr l f = 2 by unfold formErr; rw [HVS.out, HFT.out, if_pos rfl, if_pos rfl, if_pos HE.out, HR.out, if_neg hr0])
      have hb0 : (r != 0) = true := bne_iff_ne.2 hr0
      clear hr0
      go_wp2_with (go_at_call 14; refine hker.mono ?_; rintro e W4 ⟨kv, rfl, hb4, A4, c4, rfl, _⟩; have HB4 := hid hb4; have q0 := (hb4.block _ (lt_of_block HK2.out)).trans HK2.out; have r0 := block_cell q0 (i := 0) rfl; have r1 := block_free q0 (i := 0); have r2 := lt_of_block q0; have HQ0 := hid q0; have HD4 := hid ((hb4.block _ (lt_of_block HD3.out)).trans HD3.out); clear hb4 q0)
      have hDl := lt_of_block HD4.out
      have hne : W2.heap.size ≠ w.heap.size + 2 := by have := HS2.out; omega
      have hD5 : ((W4.setCell ⟨w.heap.size + 2, 0, none⟩ (.int .i64 2)).alloc (.cells #[.int .i64 (kernZ f).1.op, .string (kernZ f).1.name, .int .i64 (kernZ f).1.val, .int .i64 (kernZ f).1.bound, .slice A4 (kernZ f).1.args.length c4] 25)).heap[W2.heap.size]? = some (.deferred (some [])) := by
        rw [at_old _ _ _ (by simpa using hDl)]
        exact (at_set (w := W4) (p := ⟨w.heap.size + 2, 0, none⟩) (u := .int .i64 2) hne).trans HD4.out
      have e5 : ((W4.setCell ⟨w.heap.size + 2, 0, none⟩ (.int .i64 2)).alloc (.cells #[.int .i64 (kernZ f).1.op, .string (kernZ f).1.name, .int .i64 (kernZ f).1.val, .int .i64 (kernZ f).1.bound, .slice A4 (kernZ f).1.args.length c4] 25)).heap[w.heap.size + 2]? = some (.cells #[.int .i64 2] 31 (0, 0)) := by
        rw [at_old _ _ _ (by simpa using r2), set_block HQ0.out]; rfl
      have hc5 : Below w.heap.size w ((W4.setCell ⟨w.heap.size + 2, 0, none⟩ (.int .i64 2)).alloc (.cells #[.int .i64 (kernZ f).1.op, .string (kernZ f).1.name, .int .i64 (kernZ f).1.val, .int .i64 (kernZ f).1.bound, .slice A4 (kernZ f).1.args.length c4] 25)) :=
        ((HB3.out.trans (HB4.out.mono HB3.out.size)).setCell (p := ⟨w.heap.size + 2, 0, none⟩) (by simp) (.int .i64 2)).alloc (by have := HB3.out.size; have := HB4.out.size; simp; omega) _
      refine marks_ret rfl hD5 (v := .int .i64 2) (fun w' hc' => ?_) (fun w' hc' => ⟨by rw [HF0.out], hc5.trans (hc'.below (fun b hb => by have := HS2.out; omega) hc5.size)⟩)
      have := block_cell (hc'.box e5 (show w.heap.size + 2 ≠ W2.heap.size from fun e => hne e.symm)) (i := 0) rfl
      simp [results, Tryd.results9, go_sem, this]
  case hstop =>
    rintro c W3 hc ⟨rfl, h1, h2⟩ hD3
    dsimp only
    go_wp2_with fail
    have hc4 := HBw.out.trans (hc.below (B := w.heap.size) (fun b hb => by omega) HBw.out.size)
    refine marks_ret rfl hD3 (v := .int .i64 (errL l (preL false f))) (fun w' hc' => ?_) (fun w' hc' => ⟨by unfold formErr; rw [HVS.out, HFT.out, if_pos rfl, if_pos rfl, if_neg h1], hc4.trans (hc'.below (fun b hb => by have := HS2.out; omega) hc4.size)⟩)
    have := block_cell (hc'.box h2 (by have := HS2.out; omega)) (i := 0) rfl
    simp [results, Tryd.results9, go_sem, this]
end Go.Proofs.YtdakdpfofgkjoaaDoor
