/-
  Walk of and.
-/
import Derived.Test.YtfabdpnjjondaaaG4
set_option linter.unusedVariables false
set_option linter.unusedSimpArgs false
namespace Go.Proofs.Ytfabdpnjjondaaa
open Go.RowKit
attribute [local go_sem] cell_alloc_old build_g1 build_g2 build_g3

section
variable {no a r x y z : Int} {gs xs ys zs : GS}
theorem andStep_1 (h : a = r) : andStep no (r, gs) a = (r, gs) := by unfold andStep; rw [if_pos h]
theorem andStep_2 (h : a ≠ r) (hx : notG gs no = (x, xs)) (h2 : a = x) : andStep no (r, gs) a = (r, xs) := by
  unfold andStep; rw [if_neg h]; dsimp only; rw [hx]; dsimp only; rw [if_pos h2]
theorem andStep_3 (h : a ≠ r) (hx : notG gs no = (x, xs)) (h2 : a ≠ x) (hy : notG xs no = (y, ys)) (h3 : r = y) : andStep no (r, gs) a = (a, ys) := by
  unfold andStep; rw [if_neg h]; dsimp only; rw [hx]; dsimp only; rw [if_neg h2, hy]; dsimp only; rw [if_pos h3]
theorem andStep_4 (h : a ≠ r) (hx : notG gs no = (x, xs)) (h2 : a ≠ x) (hy : notG xs no = (y, ys)) (h3 : r ≠ y) (h4 : a = no ∨ r = no) : andStep no (r, gs) a = (no, ys) := by
  unfold andStep; rw [if_neg h]; dsimp only; rw [hx]; dsimp only; rw [if_neg h2, hy]; dsimp only; rw [if_neg h3]
  by_cases h5 : a = no
  · rw [if_pos h5]
  · rw [if_neg h5, if_pos (h4.resolve_left h5)]
theorem andStep_6 (h : a ≠ r) (hx : notG gs no = (x, xs)) (h2 : a ≠ x) (hy : notG xs no = (y, ys)) (h3 : r ≠ y) (h4 : a ≠ no) (h5 : r ≠ no) (hz : notG ys r = (z, zs)) (h6 : a = z) : andStep no (r, gs) a = (no, zs) := by
  unfold andStep; rw [if_neg h]; dsimp only; rw [hx]; dsimp only; rw [if_neg h2, hy]; dsimp only; rw [if_neg h3, if_neg h4, if_neg h5, hz]; dsimp only; rw [if_pos h6]
theorem andStep_7 (h : a ≠ r) (hx : notG gs no = (x, xs)) (h2 : a ≠ x) (hy : notG xs no = (y, ys)) (h3 : r ≠ y) (h4 : a ≠ no) (h5 : r ≠ no) (hz : notG ys r = (z, zs)) (h6 : a ≠ z) : andStep no (r, gs) a = addG zs ⟨4, min a r, max a r⟩ := by
  unfold andStep; rw [if_neg h]; dsimp only; rw [hx]; dsimp only; rw [if_neg h2, hy]; dsimp only; rw [if_neg h3, if_neg h4, if_neg h5, hz]; dsimp only; rw [if_neg h6]
end

theorem add_cnt (gs : GS) (g : Gt) : (addG gs g).2.length ≤ gs.length + 1 := by unfold addG; split <;> simp
theorem not_cnt (gs : GS) (a : Int) : (notG gs a).2.length ≤ gs.length + 1 := by
  unfold notG
  split
  · simp
  · exact add_cnt _ _
/-- The lists in the middle of the fold are no longer than its end. -/
theorem andTo_pre {ib nl : Int} {gs : GS} {no : Int} {s : Int × GS} (h : Up ib nl gs s) (n0 : 0 ≤ no) (n1 : no < gs.length) (list : List Int) (hl : ∀ j, j < list.length → 0 ≤ list.getD j 0 ∧ list.getD j 0 < gs.length) {j : Nat} : ∀ {k : Nat}, j ≤ k → k ≤ list.length →
    (andTo no s list j).2 <+: (andTo no s list k).2
  | 0, hj, _ => by obtain rfl : j = 0 := by omega
                   exact List.prefix_rfl
  | k + 1, hj, hk => by
    rcases Nat.lt_or_ge j (k + 1) with h' | h'
    · refine (andTo_pre h n0 n1 list hl (k := k) (by omega) (by omega)).trans ?_
      have hu := andTo_up h n0 n1 list hl k (by omega)
      have hr := hl k (by omega)
      have hlen := hu.len
      exact (andStep_up (gs := (andTo no s list k).2) (Up.self hu.ok hu.lo hu.hi) n0 (by omega) hr.1 (by omega)).pre
    · obtain rfl : j = k + 1 := by omega
      exact List.prefix_rfl

set_option maxHeartbeats 4000000 in
theorem and_any (w : World) (bg : Nat) (gs : GS) (F D : Dom) (A : Option Addr) (c : Nat) (list : List Int) (hG : Gat w bg gs F) (hr : RdI w D A c list) (hD : ∀ b, D b → ¬ F b) {ib nl : Int} (hok : Ok ib nl gs)
    (hlist : ∀ j, j < list.length → 0 ≤ list.getD j 0 ∧ list.getD j 0 < gs.length) (hl : (andG gs list).2.length ≤ 999990) :
    Calls Try.prog 60 #[.pointer (some ⟨bg, 0, none⟩), .slice A list.length c] w fun e w' =>
      e = .returned (.int .i64 (andG gs list).1) ∧ GPost w bg F (andG gs list).2 w' := by
  have hc0 := const_up hok 0
  have hc1 := const_up hc0.ok 1
  obtain ⟨no, gs0, h0⟩ : ∃ no gs0, constG gs 0 = (no, gs0) := ⟨_, _, rfl⟩
  rw [h0] at hc0 hc1
  obtain ⟨r0, gs1, h1⟩ : ∃ r gs1, constG gs0 1 = (r, gs1) := ⟨_, _, rfl⟩
  dsimp only at hc1
  rw [h1] at hc1
  have hand : andG gs list = andTo no (r0, gs1) list list.length := by unfold andG; rw [h0]; dsimp only; rw [h1]
  have hl0 := hc0.len
  have hn0 := hc0.lo
  have hn1 := hc0.hi
  dsimp only at hl0 hn0 hn1
  have hlist0 : ∀ j, j < list.length → 0 ≤ list.getD j 0 ∧ list.getD j 0 < gs0.length := fun j hj => ⟨(hlist j hj).1, by have := (hlist j hj).2; omega⟩
  have hpre : ∀ k, k ≤ list.length → (andTo no (r0, gs1) list k).2.length ≤ 999990 := fun k hk => by
    have := (andTo_pre hc1 hn0 hn1 list hlist0 hk (Nat.le_refl _)).length_le
    rw [hand] at hl; omega
  have hg1l : gs1.length ≤ 999990 := hpre 0 (Nat.zero_le _)
  have hg0l : gs0.length ≤ gs1.length := hc1.len
  rw [hand]
  have HU := hid (andTo_up hc1 hn0 hn1 list hlist0)
  have HP := hid hpre
  have HL0 := hid hlist0
  have HR := hid hr
  have H0 := hid h0
  have H1 := hid h1
  have hmm := hr.len.1
  clear hpre hand hc1 h0 h1 hlist0 hlist hr hl
  go_enter Try.func60, Try.ntmps60
  go_wp2_with fail
  refine (const_any _ bg gs F 0 hG (by omega) hok).mono ?_
  rw [H0.out]
  rintro e w1 ⟨rfl, F1, hg1, hs1, hch1⟩
  have HG1 := hid hg1
  have HS1 := hid hs1
  have HC1 := hid hch1
  clear hg1 hs1 hch1
  go_wp2_with fail
  refine (const_any _ bg gs0 F1 1 HG1.out (by omega) hc0.ok).mono ?_
  rw [H1.out]
  rintro e w2 ⟨rfl, hp2⟩
  have HP2 := hid (GPost.trans HS1.out HC1.out hp2)
  clear hp2
  go_wp2_with fail
  go_loopw [6, 15] (fun r t wr => ∃ k : Nat, k ≤ list.length ∧ t = .int .i64 k ∧ r = .int .i64 (andTo no (r0, gs1) list k).1 ∧ GPost w bg F (andTo no (r0, gs1) list k).2 wr) (fun _ t _ => list.length - (intOf t).toNat)
  case atStart => exact ⟨0, Nat.zero_le _, rfl, rfl, HP2.out⟩
  case round =>
    obtain ⟨k, hk, rfl, rfl, hp⟩ := hrel
    obtain ⟨F3, hg3, hs3, hc3⟩ := hp
    by_cases hlt : k < list.length
    · obtain ⟨b, o, a, rfl, hDb, _, HX, hc⟩ := (HR.out.keep (hc3.keeps hD)).get hlt
      have hu := HU.out k hk
      have hu' := HU.out (k + 1) hlt
      have hst : andTo no (r0, gs1) list (k + 1) = andStep no (andTo no (r0, gs1) list k) a := by rw [andTo, HX.out]
      have har := HL0.out k hlt
      rw [HX.out] at har
      have hpk := HP.out k hk
      have hpk1 := HP.out (k + 1) hlt
      rw [hst] at hu' hpk1
      obtain ⟨r, gk, hs⟩ : ∃ r gk, andTo no (r0, gs1) list k = (r, gk) := ⟨_, _, rfl⟩
      rw [hs] at hu hu' hst hg3 hpk hpk1 ⊢
      dsimp only at hg3 hpk ⊢
      have hr0 := hu.lo
      have hr1 := hu.hi
      have hgl := hu.len
      dsimp only at hr0 hr1 hgl
      have HG3 := hid hg3
      have HS3 := hid hs3
      have HC3 := hid hc3
      have HST := hid hst
      have HS := hid hs
      have hok1 : Ok ib nl gk := hu.ok
      have hi1 : (k : Int) < list.length := by omega
      clear hg3 hs3 hc3 hst hs hu hu' hpk1
      by_cases c1 : a = r
      · have e1 : (a == r) = true := beq_iff_eq.2 c1
        have HE := hid (andStep_1 (no := no) (gs := gk) c1)
        clear c1
        go_wp2_with fail
        go_roundw
        case rel => exact ⟨k + 1, by omega, by go_num, by rw [HST.out, HE.out], by rw [HST.out, HE.out]; exact ⟨F3, HG3.out, HS3.out, HC3.out⟩⟩
        case measure => simp [intOf]; omega
      · have e1 : (a == r) = false := beq_eq_false_iff_ne.2 c1
        have hxu := not_up hok1 hn0 (a := no) (by omega)
        obtain ⟨x, xs, hx⟩ : ∃ x xs, notG gk no = (x, xs) := ⟨_, _, rfl⟩
        have hxc := not_cnt gk no
        rw [hx] at hxu hxc
        have HX2 := hid hx
        have hxl := hxu.len
        dsimp only at hxl hxc
        have C1 := hid c1
        clear c1 hx
        go_wp2_with fail
        refine (not_any _ bg gk F3 no HG3.out (by omega) hn0 (by omega)).mono ?_
        rw [HX2.out]
        rintro e w4 ⟨rfl, hp4⟩
        have HP4 := hid (GPost.trans HS3.out HC3.out hp4)
        clear hp4
        by_cases c2 : a = x
        · have e2 : (a == x) = true := beq_iff_eq.2 c2
          have HE := hid (andStep_2 C1.out HX2.out c2)
          clear c2
          go_wp2_with fail
          go_roundw
          case rel => exact ⟨k + 1, by omega, by go_num, by rw [HST.out, HE.out], by rw [HST.out, HE.out]; exact HP4.out⟩
          case measure => simp [intOf]; omega
        · have e2 : (a == x) = false := beq_eq_false_iff_ne.2 c2
          have hok2 : Ok ib nl xs := hxu.ok
          have hyu := not_up hok2 hn0 (a := no) (by omega)
          obtain ⟨y, ys, hy⟩ : ∃ y ys, notG xs no = (y, ys) := ⟨_, _, rfl⟩
          have hyc := not_cnt xs no
          rw [hy] at hyu hyc
          have HY := hid hy
          have hyl := hyu.len
          dsimp only at hyl hyc
          have C2 := hid c2
          obtain ⟨F4, hg4, hs4, hc4⟩ := HP4.out
          have HG4 := hid hg4
          have HS4 := hid hs4
          have HC4 := hid hc4
          clear c2 hy hg4 hs4 hc4
          go_wp2_with fail
          refine (not_any _ bg xs F4 no HG4.out (by omega) hn0 (by omega)).mono ?_
          rw [HY.out]
          rintro e w5 ⟨rfl, hp5⟩
          have HP5 := hid (GPost.trans HS4.out HC4.out hp5)
          clear hp5
          by_cases c3 : r = y
          · have e3 : (r == y) = true := beq_iff_eq.2 c3
            have HE := hid (andStep_3 C1.out HX2.out C2.out HY.out c3)
            clear c3
            go_wp2_with fail
            go_roundw
            case rel => exact ⟨k + 1, by omega, by go_num, by rw [HST.out, HE.out], by rw [HST.out, HE.out]; exact HP5.out⟩
            case measure => simp [intOf]; omega
          · have e3 : (r == y) = false := beq_eq_false_iff_ne.2 c3
            by_cases c4 : a = no
            · have e4 : (a == no) = true := beq_iff_eq.2 c4
              have HE := hid (andStep_4 C1.out HX2.out C2.out HY.out c3 (.inl c4))
              clear c3 c4
              go_wp2_with fail
              go_roundw
              case rel => exact ⟨k + 1, by omega, by go_num, by rw [HST.out, HE.out], by rw [HST.out, HE.out]; exact HP5.out⟩
              case measure => simp [intOf]; omega
            · have e4 : (a == no) = false := beq_eq_false_iff_ne.2 c4
              by_cases c5 : r = no
              · have e5 : (r == no) = true := beq_iff_eq.2 c5
                have HE := hid (andStep_4 C1.out HX2.out C2.out HY.out c3 (.inr c5))
                clear c3 c4 c5
                go_wp2_with fail
                go_roundw
                case rel => exact ⟨k + 1, by omega, by go_num, by rw [HST.out, HE.out], by rw [HST.out, HE.out]; exact HP5.out⟩
                case measure => simp [intOf]; omega
              · have e5 : (r == no) = false := beq_eq_false_iff_ne.2 c5
                have hok3 : Ok ib nl ys := hyu.ok
                have hzu := not_up hok3 hr0 (a := r) (by omega)
                obtain ⟨z, zs, hz⟩ : ∃ z zs, notG ys r = (z, zs) := ⟨_, _, rfl⟩
                have hzc := not_cnt ys r
                rw [hz] at hzu hzc
                have HZ := hid hz
                have hzl := hzu.len
                dsimp only at hzl hzc
                have C3 := hid c3
                have C4 := hid c4
                have C5 := hid c5
                obtain ⟨F5, hg5, hs5, hc5⟩ := HP5.out
                have HG5 := hid hg5
                have HS5 := hid hs5
                have HC5 := hid hc5
                clear c3 c4 c5 hz hg5 hs5 hc5
                go_wp2_with fail
                refine (not_any _ bg ys F5 r HG5.out (by omega) hr0 (by omega)).mono ?_
                rw [HZ.out]
                rintro e w6 ⟨rfl, hp6⟩
                have HP6 := hid (GPost.trans HS5.out HC5.out hp6)
                clear hp6
                by_cases c6 : a = z
                · have e6 : (a == z) = true := beq_iff_eq.2 c6
                  have HE := hid (andStep_6 C1.out HX2.out C2.out HY.out C3.out C4.out C5.out HZ.out c6)
                  clear c6
                  go_wp2_with fail
                  go_roundw
                  case rel => exact ⟨k + 1, by omega, by go_num, by rw [HST.out, HE.out], by rw [HST.out, HE.out]; exact HP6.out⟩
                  case measure => simp [intOf]; omega
                · have e6 : (a == z) = false := beq_eq_false_iff_ne.2 c6
                  have HE := hid (andStep_7 C1.out HX2.out C2.out HY.out C3.out C4.out C5.out HZ.out c6)
                  obtain ⟨F6, hg6, hs6, hc6⟩ := HP6.out
                  have HG6 := hid hg6
                  have HS6 := hid hs6
                  have HC6 := hid hc6
                  clear c6 hg6 hs6 hc6
                  have c7 : a < r ∨ r < a := by have := C1.out; omega
                  rcases c7 with c7 | c7
                  · have HM : Hid (andStep no (r, gk) a = addG zs ⟨4, a, r⟩) := hid (by rw [HE.out]; congr 2 <;> omega)
                    have hne : ¬ a = r := C1.out
                    clear hne
                    go_wp2_with fail
                    refine (add_any _ bg zs F6 ⟨4, a, r⟩ HG6.out (by omega)).mono ?_
                    rintro e w7 ⟨rfl, hp7⟩
                    have HP7 := hid (GPost.trans HS6.out HC6.out hp7)
                    clear hp7
                    go_wp2_with fail
                    go_roundw
                    case rel => exact ⟨k + 1, by omega, by go_num, by rw [HST.out, HM.out], by rw [HST.out, HM.out]; exact HP7.out⟩
                    case measure => simp [intOf]; omega
                  · have HM : Hid (andStep no (r, gk) a = addG zs ⟨4, r, a⟩) := hid (by rw [HE.out]; congr 2 <;> omega)
                    have hne : ¬ a = r := C1.out
                    clear hne
                    go_wp2_with fail
                    refine (add_any _ bg zs F6 ⟨4, r, a⟩ HG6.out (by omega)).mono ?_
                    rintro e w7 ⟨rfl, hp7⟩
                    have HP7 := hid (GPost.trans HS6.out HC6.out hp7)
                    clear hp7
                    go_wp2_with fail
                    go_roundw
                    case rel => exact ⟨k + 1, by omega, by go_num, by rw [HST.out, HM.out], by rw [HST.out, HM.out]; exact HP7.out⟩
                    case measure => simp [intOf]; omega
    · go_wp2_with fail
      go_ret
      obtain rfl : k = list.length := by omega
      exact ⟨rfl, F3, hg3, hs3, hc3⟩
end Go.Proofs.Ytfabdpnjjondaaa
