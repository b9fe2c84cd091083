/-
  Walk of signal.Valid and signal.Find.
  A map from the names of requirements to their first indices.
  Rows of requirements, of signals and of faults that a call keeps itself.
-/
import Derived.WalkMore
import Derived.Test.YtdakdpfofgkjoaaDoorZ29
import Derived.Test.YtdakdpfofgkjoaaDoorZ06
import Derived.Test.YtdakdpfofgkjoaaDoorZ00
import Derived.Test.YtdakdpfofgkjoaaDoorZ15
set_option linter.unusedVariables false
set_option linter.unusedSimpArgs false
namespace Go.Proofs.YtdakdpfofgkjoaaDoor
open Go.RowKit
attribute [local go_sem] cell_alloc_old

theorem mul_small {P s : Int} (h1 : 1 ≤ P) (h2 : P ≤ 4096) (h3 : 2 ≤ s) (h4 : s ≤ 4) : 1 ≤ P * s ∧ P * s ≤ 4 * P := by
  have : s = 2 ∨ s = 3 ∨ s = 4 := by omega
  rcases this with rfl | rfl | rfl <;> omega
/-- The sizes so far are small. -/
structure PrOk (l : List Sg) (i : Nat) (P : Int) : Prop where
  is : P = prodS (l.take i)
  lo : 1 ≤ P
  hi : P ≤ 4 ^ i
theorem PrOk.zero (l : List Sg) : PrOk l 0 1 := ⟨rfl, by omega, by decide⟩
theorem PrOk.succ {l : List Sg} {i : Nat} {P s : Int} (h : PrOk l i P) (hi : i < l.length) (h6 : i < 6) (hs : (l.getD i default).size = s) (h2 : 2 ≤ s) (h4 : s ≤ 4) : PrOk l (i + 1) (P * s) := by
  have hP : P ≤ 4096 := by
    refine Int.le_trans h.hi ?_
    have : i = 0 ∨ i = 1 ∨ i = 2 ∨ i = 3 ∨ i = 4 ∨ i = 5 := by omega
    rcases this with rfl | rfl | rfl | rfl | rfl | rfl <;> decide
  have hm := mul_small h.lo hP h2 h4
  refine ⟨?_, hm.1, ?_⟩
  · rw [take_succ_getD l default hi, prodS_append, ← h.is]
    show P * s = P * ((l.getD i default).size * 1)
    rw [hs, Int.mul_one]
  · have := h.hi
    rw [Int.pow_succ]
    omega
theorem PrOk.wrap {l : List Sg} {i : Nat} {P s : Int} (h : PrOk l i P) (h6 : i < 6) (h2 : 2 ≤ s) (h4 : s ≤ 4) : IntKind.i64.wrap (P * s) = P * s := by
  have hP : P ≤ 4096 := by
    refine Int.le_trans h.hi ?_
    have : i = 0 ∨ i = 1 ∨ i = 2 ∨ i = 3 ∨ i = 4 ∨ i = 5 := by omega
    rcases this with rfl | rfl | rfl | rfl | rfl | rfl <;> decide
  have hm := mul_small h.lo hP h2 h4
  exact IntWalk.i64_in _ (by omega)
theorem sg_bad {l : List Sg} {i : Nat} (hi : i < l.length) (h : sgOk l i = false) : validS l = false := by
  unfold validS
  rw [allN_false hi h]
  simp
theorem findN_le {l : List Sg} {s : ByteArray} {k : Nat} (hk : k < l.length) (h : (l.getD k default).name = s) : findN l s ≤ k :=
  firstN_of (by rw [sgNames_len]; exact hk) (by rw [sgNames_at k hk]; exact h)
theorem findN_ge {l : List Sg} {s : ByteArray} {k : Nat} (hk : k ≤ l.length) (h : ∀ j, j < k → (l.getD j default).name ≠ s) : k ≤ findN l s :=
  (firstN_ge (by rw [sgNames_len]; exact hk)).2 fun j hj => by rw [sgNames_at j (by omega)]; exact h j hj
theorem findN_top (l : List Sg) (s : ByteArray) : findN l s ≤ l.length := by have := firstN_le s (sgNames l); rw [sgNames_len] at this; exact this
set_option maxRecDepth 100000 in
set_option maxHeartbeats 4000000 in
theorem svalid_any {D : Dom} (l : List Sg) (A : Option Addr) (c n : Nat) (w : World) (hn : n = l.length) (h : RdG w D A c l) (hk : GK w) :
    Calls Tryd.prog 10 #[.slice A n c] w fun e w' => e = .returned (.bool (validS l)) ∧ Below w.heap.size w w' := by
  subst hn
  have hlen := h.len.1
  have HH := hid h.old
  have HK := hid hk
  clear h hk
  by_cases h1 : l.length < 1
  · have HR := hid (show validS l = false by unfold validS; rw [decide_eq_false (by omega)]; rfl)
    have d1 : decide ((l.length : Int) < 1) = true := decide_eq_true (by omega)
    have d1' : (l.length : Int) < 1 := by omega
    clear h1
    go_enter Tryd.func10, Tryd.ntmps10
    go_wp2_with fail
    go_step3
    go_wp2_with fail
    try rw [Exit.noGoto_ret]
    go_ret
    exact ⟨ret_bool HR.out.symm, by go_grown⟩
  by_cases h2 : 6 < l.length
  · have HR := hid (show validS l = false by unfold validS; rw [decide_eq_false (show ¬ l.length ≤ 6 by omega)]; simp)
    have d1' : ¬ (l.length : Int) < 1 := by omega
    have d2' : 6 < (l.length : Int) := by omega
    have d1 : decide ((l.length : Int) < 1) = false := decide_eq_false d1'
    have d2 : decide (6 < (l.length : Int)) = true := decide_eq_true d2'
    clear h1 h2
    go_enter Tryd.func10, Tryd.ntmps10
    go_wp2_with fail
    go_step3
    go_wp2_with fail
    try rw [Exit.noGoto_ret]
    go_ret
    exact ⟨ret_bool HR.out.symm, by go_grown⟩
  have d1' : ¬ (l.length : Int) < 1 := by omega
  have d2' : ¬ 6 < (l.length : Int) := by omega
  have d1 : decide ((l.length : Int) < 1) = false := decide_eq_false d1'
  have d2 : decide (6 < (l.length : Int)) = false := decide_eq_false d2'
  have H16 := hid (show 1 ≤ l.length ∧ l.length ≤ 6 by omega)
  clear h1 h2
  go_enter Tryd.func10, Tryd.ntmps10
  go_wp2_with fail
  go_step3
  go_wp2_with fail
  go_step3
  go_upto_region 5 with (fail)
  refine wp_gen fun W hW => ?_
  have HB := hid (show Below w.heap.size w W by rw [hW]; go_grown)
  clear hW
  go_wp2_with fail
  go_loopw [3, 4, 17] (fun p r q wr => ∃ (i : Nat) (P : Int), i ≤ l.length ∧ p = .bool true ∧ q = .int .i64 (i : Int) ∧ r = .int .i64 P ∧ Hid (PrOk l i P) ∧ Hid (SoFar i (sgOk l)) ∧ Below w.heap.size w wr) (fun _ _ q _ => l.length - (intOf q).toNat)
  case atStart => exact ⟨0, 1, Nat.zero_le _, rfl, rfl, rfl, PrOk.zero l, SoFar.zero _, HB.out⟩
  case round =>
    obtain ⟨i, P, hi, rfl, rfl, rfl, HP, HS, hb⟩ := hrel
    have HBL := hid hb
    clear hb
    by_cases hlt : i < l.length
    · have hii : (i : Int) < l.length := by omega
      have HI6 := hid (show i < 6 by have := H16.out; omega)
      have HLT := hid hlt
      have HHr := hid (HH.out.any HBL.out)
      obtain ⟨b, o, s, rfl, hlb, HX, x0, x1, x2⟩ := HHr.out.get hlt
      have hnm := name_any s.name wr (HK.out.below HBL.out HK.out.pos)
      have HOK := hid (show sgOk l i = (nameB s.name && decide (2 ≤ s.size) && decide (s.size ≤ 4) && decide (i ≤ findN l s.name)) by unfold sgOk; rw [HX.out])
      have HNAME := hid (show (l.getD i default).name = s.name by rw [HX.out])
      have HSIZE := hid (show (l.getD i default).size = s.size by rw [HX.out])
      clear HX
      cases hq : nameB s.name
      · have HR := hid (sg_bad HLT.out (by rw [HOK.out, hq]; rfl))
        rw [hq] at hnm
        have HN := hid hnm
        clear hnm hq
        go_wp2_with (go_at_call 26; (with_reducible refine HN.out.mono ?_); rintro e w2 ⟨rfl, hb2⟩; have HB2 := hid (HBL.out.trans (hb2.mono HBL.out.size)); clear hb2)
        try rw [Exit.noGoto_ret]
        go_ret
        exact ⟨ret_bool HR.out.symm, HB2.out⟩
      rw [hq] at hnm
      have HN := hid hnm
      have HQ := hid hq
      clear hnm hq
      by_cases hs2 : s.size < 2
      · have HR := hid (sg_bad HLT.out (by rw [HOK.out, decide_eq_false (show ¬ 2 ≤ s.size by omega)]; simp))
        go_wp2_with (go_at_call 26; (with_reducible refine HN.out.mono ?_); rintro e w2 ⟨rfl, hb2⟩; have y0 := (hb2.cell (p := ⟨b, o + i * 3, none⟩) hlb).trans x0; have y2 := (hb2.cell (p := ⟨b, o + i * 3 + 2, none⟩) hlb).trans x2; have hl2 := Nat.lt_of_lt_of_le hlb hb2.size; have HB2 := hid (HBL.out.trans (hb2.mono HBL.out.size)); have HHr2 := hid (HHr.out.any hb2); clear hb2 x0 x1 x2 hlb)
        try rw [Exit.noGoto_ret]
        go_ret
        exact ⟨ret_bool HR.out.symm, HB2.out⟩
      by_cases hs4 : 4 < s.size
      · have HR := hid (sg_bad HLT.out (by rw [HOK.out, decide_eq_false (show ¬ s.size ≤ 4 by omega)]; simp))
        go_wp2_with (go_at_call 26; (with_reducible refine HN.out.mono ?_); rintro e w2 ⟨rfl, hb2⟩; have y0 := (hb2.cell (p := ⟨b, o + i * 3, none⟩) hlb).trans x0; have y2 := (hb2.cell (p := ⟨b, o + i * 3 + 2, none⟩) hlb).trans x2; have hl2 := Nat.lt_of_lt_of_le hlb hb2.size; have HB2 := hid (HBL.out.trans (hb2.mono HBL.out.size)); have HHr2 := hid (HHr.out.any hb2); clear hb2 x0 x1 x2 hlb)
        try rw [Exit.noGoto_ret]
        go_ret
        exact ⟨ret_bool HR.out.symm, HB2.out⟩
      have HW := hid (HP.out.wrap (s := s.size) HI6.out (by omega) (by omega))
      have HPN := hid (HP.out.succ HLT.out HI6.out HSIZE.out (by omega) (by omega))
      have HS24 := hid (show 2 ≤ s.size ∧ s.size ≤ 4 by omega)
      go_wp2_with (go_at_call 26; (with_reducible refine HN.out.mono ?_); rintro e w2 ⟨rfl, hb2⟩; have y0 := (hb2.cell (p := ⟨b, o + i * 3, none⟩) hlb).trans x0; have y2 := (hb2.cell (p := ⟨b, o + i * 3 + 2, none⟩) hlb).trans x2; have hl2 := Nat.lt_of_lt_of_le hlb hb2.size; have HB2 := hid (HBL.out.trans (hb2.mono HBL.out.size)); have HHr2 := hid (HHr.out.any hb2); clear hb2 x0 x1 x2 hlb)
      have HY0 := hid y0
      have HY2 := hid y2
      have HL2 := hid hl2
      clear y0 y2 hl2 hs2 hs4
      obtain ⟨wi, hwi⟩ : ∃ wi, wi = w2 := ⟨_, rfl⟩
      rw [← hwi] at HB2 HHr2 HY0 HY2 HL2 ⊢
      clear hwi
      go_loopw [3, 44] (fun p q wr => ∃ k : Nat, k ≤ i ∧ p = .bool true ∧ q = .int .i64 (k : Int) ∧ Hid (Drawn wi wr) ∧ Hid (∀ j, j < k → (l.getD j default).name ≠ s.name)) (fun _ q _ => i - (intOf q).toNat)
      case atStart => exact ⟨0, Nat.zero_le _, rfl, rfl, Drawn.refl _, fun j h => absurd h (Nat.not_lt_zero _)⟩
      case round =>
        obtain ⟨k, hki, rfl, rfl, HD, HALL⟩ := hrel
        have HBD := hid (HD.out.below wi.heap.size)
        have HH3 := hid (HHr2.out.any HBD.out)
        have z0 := (HBD.out.cell (p := ⟨b, o + i * 3, none⟩) HL2.out).trans HY0.out
        have z2 := (HBD.out.cell (p := ⟨b, o + i * 3 + 2, none⟩) HL2.out).trans HY2.out
        by_cases hk : k < i
        · have hkk : (k : Int) < (i : Int) := by omega
          have hkn : (k : Int) < (l.length : Int) := by omega
          obtain ⟨b', o', t, he, hlt', HT, t0, t1, t2⟩ := HH3.out.get (k := k) (by have := HLT.out; omega)
          injection he with he
          injection he with hb' ho' _
          subst hb' ho'
          have HTN := hid (show (l.getD k default).name = t.name by rw [HT.out])
          clear HT
          by_cases ht : t.name = s.name
          · have d3 : (t.name.toList == s.name.toList) = true := bytes_ext.2 ht
            have HR := hid (sg_bad HLT.out (by
              rw [HOK.out, decide_eq_false (show ¬ i ≤ findN l s.name by
                have := findN_le (l := l) (s := s.name) (k := k) (by have := HLT.out; omega) (by rw [HTN.out]; exact ht)
                omega)]
              simp))
            have HDD := hid HD.out
            clear ht
            go_upto_region 13 with (fail)
            go_quiet (fail)
            go_wp2_with fail
            try rw [Exit.noGoto_ret]
            go_ret
            exact ⟨ret_bool HR.out.symm, HB2.out.trans (((HD.out.drewN _).below _).mono HB2.out.size)⟩
          · have d3 : (t.name.toList == s.name.toList) = false := by
              cases hb : (t.name.toList == s.name.toList)
              · rfl
              · exact absurd (bytes_ext.1 hb) ht
            have HNE := hid ht
            clear ht
            go_upto_region 13 with (fail)
            go_quiet (fail)
            go_wp2_with fail
            go_roundw
            case rel =>
              refine ⟨k + 1, by omega, rfl, by go_num, HD.out.drewN _, fun j hj => ?_⟩
              by_cases e : j = k
              · rw [e, HTN.out]; exact HNE.out
              · exact HALL.out j (by omega)
            case measure => simp [intOf]; omega
        · have hkk : ¬ (k : Int) < (i : Int) := by omega
          have HOKT := hid (show sgOk l i = true by
            rw [HOK.out, HQ.out, decide_eq_true HS24.out.1, decide_eq_true HS24.out.2, decide_eq_true (findN_ge (by have := HLT.out; omega) fun j hj => HALL.out j (by omega))]
            rfl)
          have hwr := HW.out
          go_wp2_with fail
          go_roundw
          case rel => exact ⟨i + 1, P * s.size, by have := HLT.out; omega, rfl, by go_num, (by first | rfl | rw [hwr]), HPN.out, HS.out.succ HOKT.out, HB2.out.trans (HBD.out.mono HB2.out.size)⟩
          case measure => simp [intOf]; omega
    · have hii : ¬ (i : Int) < l.length := by omega
      have HPR := hid (show P = prodS l by have := HP.out.is; rw [List.take_of_length_le (by omega)] at this; exact this)
      have HV := hid (show validS l = decide (P ≤ 64) by
        unfold validS
        rw [decide_eq_true H16.out.1, decide_eq_true H16.out.2, HS.out.all (by omega), ← HPR.out]; rfl)
      go_wp2_with fail
      try rw [Exit.noGoto_ret]
      go_ret
      exact ⟨ret_bool HV.out.symm, HBL.out⟩
end Go.Proofs.YtdakdpfofgkjoaaDoor
set_option linter.unusedVariables false
set_option linter.unusedSimpArgs false
namespace Go.Proofs.YtdakdpfofgkjoaaDoor
open Go.RowKit

def encS (s : ByteArray) : Value := .string s
theorem strS_check (e : Bool) (w : World) (q : ByteArray) : (Instr.checkKey e 10000 9 (encS q)).run Tryd.prog w = .ok () w := by kernel_rfl
theorem strS_key : KeyT Tryd.prog 9 encS :=
  .of_now Tryd.underlying9 strS_check (fun a b => by
    unfold encS
    simp only [Instr.sameNow]
    rw [show (a == b) = decide (a = b) from by rw [Bool.eq_iff_iff, Go.MapKept.bytes_beq, decide_eq_true_eq]]) (fun k => by
    simp only [encS, Instr.sameBits]
    rw [Go.MapKept.bytes_beq])
/-- Block mb maps each name of the first k to its first index. -/
def FirstM (w : World) (mb : Nat) (L : List ByteArray) (k : Nat) : Prop :=
  ∃ M : List (ByteArray × Value), MapIs encS w mb M ∧ ∀ s, lookB M s = if firstN s L < k then some (.int .i64 (firstN s L : Int)) else none
section
variable {w w' : World} {mb k : Nat} {L : List ByteArray}
theorem FirstM.lt (h : FirstM w mb L k) : mb < w.heap.size := let ⟨_, h1, _⟩ := h; MapIs.lt h1
theorem FirstM.of_block (h : FirstM w mb L k) (hb : w'.heap[mb]? = w.heap[mb]?) : FirstM w' mb L k := let ⟨M, h1, h2⟩ := h; ⟨M, MapIs.of_block h1 hb, h2⟩
theorem FirstM.new (w : World) (L : List ByteArray) : FirstM (w.alloc (.map #[] 0)) w.heap.size L 0 := ⟨[], MapIs.new w, fun s => by simp [lookB]⟩
theorem FirstM.has (h : FirstM w mb L k) (s : ByteArray) : (Instr.lookup 80 (.map (some mb)) (.string s) true).run Tryd.prog w = .ok (.tuple #[.int .i64 (if firstN s L < k then (firstN s L : Int) else 0), .bool (decide (firstN s L < k))]) w := by
  obtain ⟨M, h1, h2⟩ := h
  have := run_lookup_b strS_key (T := 80) (E := 3) (P := Tryd.prog) (z := .int .i64 0) (by kernel_rfl) (by kernel_rfl) h1 s true
  rw [h2] at this
  show (Instr.lookup 80 (.map (some mb)) (encS s) true).run Tryd.prog w = _
  rw [this]
  by_cases hk : firstN s L < k <;> simp [hk]
theorem FirstM.look (h : FirstM w mb L k) (s : ByteArray) : (Instr.lookup 80 (.map (some mb)) (.string s) false).run Tryd.prog w = .ok (.int .i64 (if firstN s L < k then (firstN s L : Int) else 0)) w := by
  obtain ⟨M, h1, h2⟩ := h
  have := run_lookup_b strS_key (T := 80) (E := 3) (P := Tryd.prog) (z := .int .i64 0) (by kernel_rfl) (by kernel_rfl) h1 s false
  rw [h2] at this
  show (Instr.lookup 80 (.map (some mb)) (encS s) false).run Tryd.prog w = _
  rw [this]
  by_cases hk : firstN s L < k <;> simp [hk]
theorem FirstM.put (h : FirstM w mb L k) {s : ByteArray} (hs : L.getD k ⟨#[]⟩ = s) (hk : k < L.length) (hn : ¬ firstN s L < k) : ∃ w', (Instr.mapUpdate 80 (.map (some mb)) (.string s) (.int .i64 (k : Int))).run Tryd.prog w = .ok () w' ∧ FirstM w' mb L (k + 1) ∧ w.grownBy w' (some mb) ∧ w'.heap.size = w.heap.size := by
  obtain ⟨M, h1, h2⟩ := h
  obtain ⟨w', e1, e2, e3, e4⟩ := run_update_b strS_key (T := 80) (E := 3) (P := Tryd.prog) (by kernel_rfl) h1 s (.int .i64 (k : Int))
  have hf : firstN s L = k := by have := firstN_of hk hs; omega
  refine ⟨w', e1, ⟨_, e2, fun t => ?_⟩, e3, e4⟩
  rw [lookB_upd, h2]
  by_cases ht : t = s
  · rw [if_pos ht, ht, hf, if_pos (by omega)]
  · rw [if_neg ht]
    have hne : firstN t L ≠ k := fun e => ht (by rw [← hs, ← e]; exact (firstN_at (by rw [e]; exact hk)).symm)
    by_cases h3 : firstN t L < k
    · rw [if_pos h3, if_pos (by omega)]
    · rw [if_neg h3, if_neg (by omega)]
theorem FirstM.skip (h : FirstM w mb L k) {s : ByteArray} (hs : L.getD k ⟨#[]⟩ = s) (hk : k < L.length) (hn : firstN s L < k) : FirstM w mb L (k + 1) := by
  obtain ⟨M, h1, h2⟩ := h
  refine ⟨M, h1, fun t => ?_⟩
  rw [h2]
  have hne : firstN t L ≠ k := fun e => by
    have h3 : L.getD k ⟨#[]⟩ = t := by rw [← e]; exact firstN_at (by rw [e]; exact hk)
    rw [hs] at h3
    subst h3
    omega
  by_cases h3 : firstN t L < k
  · rw [if_pos h3, if_pos (by omega)]
  · rw [if_neg h3, if_neg (by omega)]
end
end Go.Proofs.YtdakdpfofgkjoaaDoor
set_option linter.unusedVariables false
set_option linter.unusedSimpArgs false
namespace Go.Proofs.YtdakdpfofgkjoaaDoor
open Go.RowKit

theorem own_empty {w : World} {base g size : Nat} {e : TypeId} (hb : base ≤ g) (h : w.heap[g]? = some (.cells #[] e (0, 0))) : w.ownsRow base e size (.slice (some ⟨g, 0, none⟩) 0 0) 0 [] :=
  ⟨by simp, .inr ⟨g, 0, #[], rfl, hb, h, Nat.le_refl _, by omega, by simp, by simp⟩⟩
theorem own_ge {w : World} {base n size : Nat} {e : TypeId} {v : Value} {xs : List Value} (h : w.ownsRow base e size v n xs) {k : Nat} (hk : v.ownBlock = some k) : base ≤ k ∧ k < w.heap.size := by
  rcases h.2 with ⟨h0, _⟩ | ⟨g, cap, cur, hv, hb, hg, _⟩
  · rw [h0] at hk; cases hk
  · rw [hv] at hk
    injection hk with hk
    have : g = k := hk
    subst this
    exact ⟨hb, lt_of_block hg⟩
/-- A row of requirements that is the call's own; what their formulas hold lies below it. -/
structure QRow (w : World) (base : Nat) (A : Option Addr) (c : Nat) (rs : List Rq) (sl : List (Option Addr × Nat)) : Prop where
  own : w.ownsRow base 43 8 (.slice A rs.length c) rs.length (cellsQ rs sl)
  len : sl.length = rs.length
  arg : ∀ i, i < rs.length → RdA w (· < base) (rs.getD i default).f.args (sl.getD i (none, 0)).1 (sl.getD i (none, 0)).2
theorem cellsQ_append {gs ms : List Rq} {sl sm : List (Option Addr × Nat)} (h : sl.length = gs.length) : cellsQ (gs ++ ms) (sl ++ sm) = cellsQ gs sl ++ cellsQ ms sm := by
  unfold cellsQ
  rw [List.zip_append h.symm, List.flatMap_append]
section
variable {w w' : World} {base c : Nat} {A : Option Addr} {rs : List Rq} {sl : List (Option Addr × Nat)}
theorem QRow.nil (w : World) (base : Nat) : QRow w base none 0 [] [] := ⟨⟨rfl, .inl ⟨rfl, rfl⟩⟩, rfl, fun i h => absurd h (Nat.not_lt_zero _)⟩
theorem QRow.empty {w : World} {base g : Nat} (hb : base ≤ g) (h : w.heap[g]? = some (.cells #[] 43 (0, 0))) : QRow w base (some ⟨g, 0, none⟩) 0 [] [] := ⟨own_empty hb h, rfl, fun i h => absurd h (Nat.not_lt_zero _)⟩
theorem QRow.below (h : QRow w base A c rs sl) (hb : Below w.heap.size w w') : QRow w' base A c rs sl :=
  ⟨own_below h.own hb, h.len, fun i hi => ((h.arg i hi).mono (E := fun k => k < base ∧ k < w.heap.size) fun k hk hl => ⟨hk, hl⟩).keep (Keeps.of_below hb fun _ h => h.2) |>.mono fun _ h _ => h.1⟩
theorem QRow.rd (h : QRow w base A c rs sl) (hn : rs.length ≤ 140737488355328) : RdR w AnyD A c rs :=
  ⟨sl, h.len, Rd.own h.own hn fun _ _ => trivial, fun i hi => (h.arg i hi).mono fun _ _ _ => trivial⟩
theorem QRow.app {A' : Option Addr} {c' n : Nat} {r : Rq} {s : Option Addr × Nat} (h : QRow w base A c rs sl) (hg : w.grownBy w' (Value.slice A rs.length c).ownBlock) (hn : n = (rs ++ [r]).length)
    (hown : w'.ownsRow base 43 8 (.slice A' n c') n (cellsQ rs sl ++ qcells r s)) (hr : RdA w (· < base) r.f.args s.1 s.2) : QRow w' base A' c' (rs ++ [r]) (sl ++ [s]) := by
  subst hn
  have key : ∀ {l : List Fm} {B : Option Addr} {d : Nat}, RdA w (· < base) l B d → RdA w' (· < base) l B d := fun h1 =>
    h1.keep ⟨hg.size, fun k hk hl => hg.block k hl fun e => by have := own_ge h.own e.symm; omega⟩
  have e1 : cellsQ [r] [s] = qcells r s := by show qcells r s ++ [] = _; rw [List.append_nil]
  refine ⟨by rw [cellsQ_append h.len, e1]; exact hown, by rw [List.length_append, List.length_append, h.len]; rfl, fun i hi => ?_⟩
  by_cases hl : i < rs.length
  · have e1 : (rs ++ [r]).getD i default = rs.getD i default := by simp [List.getD, List.getElem?_append_left hl]
    have e2 : (sl ++ [s]).getD i (none, 0) = sl.getD i (none, 0) := by simp [List.getD, List.getElem?_append_left (show i < sl.length by rw [h.len]; exact hl)]
    rw [e1, e2]
    exact key (h.arg i hl)
  · have hi' : i = rs.length := by rw [List.length_append] at hi; simp at hi; omega
    subst hi'
    have e1 : (rs ++ [r]).getD rs.length default = r := by simp [List.getD]
    have e2 : (sl ++ [s]).getD rs.length (none, 0) = s := by rw [← h.len]; simp [List.getD]
    rw [e1, e2]
    exact key hr
end
theorem qcells_one (r : Rq) (s : Option Addr × Nat) : ∀ u ∈ qcells r s, u.oneCell' = true := by
  intro u hu
  simp only [qcells, List.mem_cons, List.not_mem_nil, or_false] at hu
  rcases hu with rfl | rfl | rfl | rfl | rfl | rfl | rfl | rfl <;> rfl
theorem gcells_one (l : List Sg) : ∀ u ∈ l.flatMap gcells, u.oneCell' = true := by
  intro u hu
  obtain ⟨s, _, hu⟩ := List.mem_flatMap.1 hu
  simp only [gcells, List.mem_cons, List.not_mem_nil, or_false] at hu
  rcases hu with rfl | rfl | rfl <;> rfl
/-- Faults. -/
def tcells (x : Int × Int) : List Value := [.int .i64 x.1, .int .i64 x.2]
def RdT (w : World) (D : Dom) (A : Option Addr) (c : Nat) (l : List (Int × Int)) : Prop := Rd w D 2 A l.length c (l.flatMap tcells)
section
variable {D E : Dom} {w w' : World} {A : Option Addr} {c : Nat} {l : List (Int × Int)}
theorem RdT.nil (w : World) (D : Dom) (A : Option Addr) {c : Nat} (hc : c ≤ 9223372036854775807) : RdT w D A c [] := Rd.nil w D 2 A hc
theorem RdT.any (h : RdT w D A c l) (hb : Below w.heap.size w w') : RdT w' AnyD A c l := ((Rd.old h).keep (Keeps.of_below hb fun _ h => h)).mono fun _ _ _ => trivial
theorem RdT.get {k : Nat} (h : RdT w D A c l) (hk : k < l.length) : ∃ b o x, A = some ⟨b, o, none⟩ ∧ D b ∧ b < w.heap.size ∧ Hid (l.getD k (0, 0) = x) ∧
    w.cell? ⟨b, o + k * 2, none⟩ = some (.int .i64 x.1) ∧ w.cell? ⟨b, o + k * 2 + 1, none⟩ = some (.int .i64 x.2) := by
  obtain ⟨b, o, e, hb, hl, hc⟩ := h.2 (by omega)
  have g : ∀ j u, j < 2 → (tcells (l.getD k (0, 0)))[j]? = some u → w.cell? ⟨b, o + (k * 2 + j), none⟩ = some u := fun j u hj hu => hc _ _ (by rw [flatF_at tcells (0, 0) 2 (fun _ => rfl) l k j hk hj]; exact hu)
  have g0 := g 0 _ (by omega) rfl
  have g1 := g 1 _ (by omega) rfl
  exact ⟨b, o, l.getD k (0, 0), e, hb, hl, hid rfl, by simpa using g0, by simpa [Nat.add_assoc] using g1⟩
end
end Go.Proofs.YtdakdpfofgkjoaaDoor
