/-
  Walk of choose.
-/
import Derived.Test.YtfabdpnjjondaaaG6
set_option linter.unusedVariables false
set_option linter.unusedSimpArgs false
namespace Go.Proofs.Ytfabdpnjjondaaa
open Go.RowKit
attribute [local go_sem] cell_alloc_old build_g1 build_g2 build_g3

theorem RdI.pair (w : World) (x y : Int) {t : TypeId} {k : Nat} (hk : k = w.heap.size) : RdI (w.alloc (.cells #[.int .i64 x, .int .i64 y] t)) (fun b => b = w.heap.size) (some ⟨k, 0, none⟩) 2 [x, y] := by
  subst hk
  refine ⟨⟨by simp, by simp, by simp, by omega⟩, fun _ => ⟨_, 0, rfl, rfl, by simp, fun j u hu => ?_⟩⟩
  rw [Nat.zero_add]
  refine cell_new _ _ _ _ _ _ rfl ?_
  match j, hu with
  | 0, hu => simpa using hu
  | 1, hu => simpa using hu
  | j + 2, hu => simp at hu

/-- or and and, called with two gates: the row has just been laid. -/
theorem or_pair (w : World) (bg : Nat) (gs : GS) (F : Dom) (x y : Int) (k : Nat) (hk : k = w.heap.size) (hG : Gat w bg gs F) {ib nl : Int} (hok : Ok ib nl gs) (h1 : 0 ≤ x) (h2 : x < gs.length) (h3 : 0 ≤ y) (h4 : y < gs.length) (hl : (orG gs [x, y]).2.length ≤ 999980) :
    Calls Try.prog 59 #[.pointer (some ⟨bg, 0, none⟩), .slice (some ⟨k, 0, none⟩) 2 2] (w.alloc (.cells #[.int .i64 x, .int .i64 y] 3)) fun e w' =>
      e = .returned (.int .i64 (orG gs [x, y]).1) ∧ GPost w bg F (orG gs [x, y]).2 w' := by
  refine (or_any _ bg gs F _ _ 2 [x, y] (hG.below ((Below.refl _ _).alloc (Nat.le_refl _) _)) (RdI.pair w x y hk) (fun b hb hf => by have := hG.lt hf; omega) hok (two_range h1 h2 h3 h4) hl (by simp)).mono ?_
  rintro e w' ⟨rfl, hp⟩
  exact ⟨rfl, hp.after ((Below.refl _ _).alloc (Nat.le_refl _) _)⟩
theorem and_pair (w : World) (bg : Nat) (gs : GS) (F : Dom) (x y : Int) (k : Nat) (hk : k = w.heap.size) (hG : Gat w bg gs F) {ib nl : Int} (hok : Ok ib nl gs) (h1 : 0 ≤ x) (h2 : x < gs.length) (h3 : 0 ≤ y) (h4 : y < gs.length) (hl : (andG gs [x, y]).2.length ≤ 999990) :
    Calls Try.prog 60 #[.pointer (some ⟨bg, 0, none⟩), .slice (some ⟨k, 0, none⟩) 2 2] (w.alloc (.cells #[.int .i64 x, .int .i64 y] 3)) fun e w' =>
      e = .returned (.int .i64 (andG gs [x, y]).1) ∧ GPost w bg F (andG gs [x, y]).2 w' := by
  refine (and_any _ bg gs F _ _ 2 [x, y] (hG.below ((Below.refl _ _).alloc (Nat.le_refl _) _)) (RdI.pair w x y hk) (fun b hb hf => by have := hG.lt hf; omega) hok (two_range h1 h2 h3 h4) hl).mono ?_
  rintro e w' ⟨rfl, hp⟩
  exact ⟨rfl, hp.after ((Below.refl _ _).alloc (Nat.le_refl _) _)⟩

set_option maxHeartbeats 4000000 in
theorem choose_any (w : World) (bg : Nat) (gs : GS) (F : Dom) (a zero one : Int) (hG : Gat w bg gs F) {ib nl : Int} (hok : Ok ib nl gs) (a0 : 0 ≤ a) (a1 : a < gs.length) (z0 : 0 ≤ zero) (z1 : zero < gs.length) (o0 : 0 ≤ one) (o1 : one < gs.length)
    (hl : (chooseG gs a zero one).2.length ≤ 999900) :
    Calls Try.prog 57 #[.pointer (some ⟨bg, 0, none⟩), .int .i64 a, .int .i64 zero, .int .i64 one] w fun e w' =>
      e = .returned (.int .i64 (chooseG gs a zero one).1) ∧ GPost w bg F (chooseG gs a zero one).2 w' := by
  have hy := const_up hok 1
  obtain ⟨y, ys, hyq⟩ : ∃ y ys, constG gs 1 = (y, ys) := ⟨_, _, rfl⟩
  rw [hyq] at hy
  have hyl := hy.len
  have hyo : Ok ib nl ys := hy.ok
  dsimp only at hyl
  have hul := (choose_up hok a0 a1 z0 z1 o0 o1).len
  have hglen : gs.length ≤ 999900 := by omega
  have HY := hid hyq
  by_cases c1 : zero = one
  · have e1 : (zero == one) = true := beq_iff_eq.2 c1
    have HC : Hid (chooseG gs a zero one = (zero, ys)) := hid (by unfold chooseG; rw [hyq]; dsimp only; rw [if_pos c1])
    clear c1 hyq hl hul
    go_enter Try.func57, Try.ntmps57
    go_wp2_with fail
    refine (const_any _ bg gs F 1 hG (by omega) hok).mono ?_
    rw [HY.out]
    rintro e w1 ⟨rfl, hp⟩
    have HP := hid hp
    clear hp
    go_wp2_with fail
    go_ret
    rw [HC.out]
    exact ⟨rfl, HP.out⟩
  have e1 : (zero == one) = false := beq_eq_false_iff_ne.2 c1
  by_cases c2 : zero = y
  · have e2 : (zero == y) = true := beq_iff_eq.2 c2
    obtain ⟨n, ns, hn⟩ : ∃ n ns, notG ys a = (n, ns) := ⟨_, _, rfl⟩
    have hnu := not_up hyo a0 (a := a) (by omega)
    rw [hn] at hnu
    have hnl := hnu.len
    have hn0 := hnu.lo
    have hn1 := hnu.hi
    have hno : Ok ib nl ns := hnu.ok
    dsimp only at hnl hn0 hn1
    have HC : Hid (chooseG gs a zero one = orG ns [n, one]) := hid (by unfold chooseG; rw [hyq]; dsimp only; rw [if_neg c1, if_pos c2, hn])
    have hol := HC.out ▸ hl
    have HN := hid hn
    clear c1 c2 hyq hn hl hul
    go_enter Try.func57, Try.ntmps57
    go_wp2_with fail
    refine (const_any _ bg gs F 1 hG (by omega) hok).mono ?_
    rw [HY.out]
    rintro e w1 ⟨rfl, F1, hg1, hs1, hc1⟩
    have HG1 := hid hg1
    have HP1 : Hid (∀ gs' w', GPost w1 bg F1 gs' w' → GPost w bg F gs' w') := hid fun gs' w' h => GPost.trans hs1 hc1 h
    clear hg1 hs1 hc1
    go_wp2_with fail
    refine (not_any _ bg ys F1 a HG1.out (by have := (or_up hno _ (two_range hn0 hn1 o0 (b := one) (by omega))).len; omega) a0 (by omega)).mono ?_
    rw [HN.out]
    rintro e w2 ⟨rfl, F2, hg2, hs2, hc2⟩
    have HG2 := hid hg2
    have HP2 : Hid (∀ gs' w', GPost w2 bg F2 gs' w' → GPost w1 bg F1 gs' w') := hid fun gs' w' h => GPost.trans hs2 hc2 h
    clear hg2 hs2 hc2
    go_wp2_with fail
    refine (or_pair _ bg ns F2 n one _ rfl HG2.out hno hn0 hn1 o0 (by omega) (by omega)).mono ?_
    rintro e w3 ⟨rfl, hp⟩
    have HP := hid hp
    clear hp
    go_wp2_with fail
    go_ret
    rw [HC.out]
    exact ⟨rfl, HP1.out _ _ (HP2.out _ _ HP.out)⟩
  have e2 : (zero == y) = false := beq_eq_false_iff_ne.2 c2
  by_cases c3 : one = y
  · have e3 : (one == y) = true := beq_iff_eq.2 c3
    have HC : Hid (chooseG gs a zero one = orG ys [a, zero]) := hid (by unfold chooseG; rw [hyq]; dsimp only; rw [if_neg c1, if_neg c2, if_pos c3])
    have hol := HC.out ▸ hl
    clear c1 c2 c3 hyq hl hul
    go_enter Try.func57, Try.ntmps57
    go_wp2_with fail
    refine (const_any _ bg gs F 1 hG (by omega) hok).mono ?_
    rw [HY.out]
    rintro e w1 ⟨rfl, F1, hg1, hs1, hc1⟩
    have HG1 := hid hg1
    have HP1 : Hid (∀ gs' w', GPost w1 bg F1 gs' w' → GPost w bg F gs' w') := hid fun gs' w' h => GPost.trans hs1 hc1 h
    clear hg1 hs1 hc1
    go_wp2_with fail
    refine (or_pair _ bg ys F1 a zero _ rfl HG1.out hyo a0 (by omega) z0 (by omega) (by omega)).mono ?_
    rintro e w3 ⟨rfl, hp⟩
    have HP := hid hp
    clear hp
    go_wp2_with fail
    go_ret
    rw [HC.out]
    exact ⟨rfl, HP1.out _ _ HP.out⟩
  · have e3 : (one == y) = false := beq_eq_false_iff_ne.2 c3
    obtain ⟨n, ns, hn⟩ : ∃ n ns, notG ys a = (n, ns) := ⟨_, _, rfl⟩
    have hnu := not_up hyo a0 (a := a) (by omega)
    rw [hn] at hnu
    have hnl := hnu.len
    have hn0 := hnu.lo
    have hn1 := hnu.hi
    have hno : Ok ib nl ns := hnu.ok
    dsimp only at hnl hn0 hn1
    obtain ⟨p, ps, hp⟩ : ∃ p ps, andG ns [n, zero] = (p, ps) := ⟨_, _, rfl⟩
    have hpu := and_up hno _ (two_range hn0 hn1 z0 (b := zero) (by omega))
    rw [hp] at hpu
    have hpl := hpu.len
    have hp0 := hpu.lo
    have hp1 := hpu.hi
    have hpo : Ok ib nl ps := hpu.ok
    dsimp only at hpl hp0 hp1
    obtain ⟨q, qs, hq⟩ : ∃ q qs, andG ps [a, one] = (q, qs) := ⟨_, _, rfl⟩
    have hqu := and_up hpo _ (two_range a0 (a := a) (by omega) o0 (b := one) (by omega))
    rw [hq] at hqu
    have hql := hqu.len
    have hq0 := hqu.lo
    have hq1 := hqu.hi
    have hqo : Ok ib nl qs := hqu.ok
    dsimp only at hql hq0 hq1
    have HC : Hid (chooseG gs a zero one = orG qs [p, q]) := hid (by unfold chooseG; rw [hyq]; dsimp only; rw [if_neg c1, if_neg c2, if_neg c3, hn]; dsimp only; rw [hp]; dsimp only; rw [hq])
    have hol := HC.out ▸ hl
    have hqq := (or_up hqo _ (two_range hp0 (a := p) (by omega) hq0 hq1)).len
    have HN := hid hn
    have HPP := hid hp
    have HQ := hid hq
    clear c1 c2 c3 hyq hn hp hq hl hul
    go_enter Try.func57, Try.ntmps57
    go_wp2_with fail
    refine (const_any _ bg gs F 1 hG (by omega) hok).mono ?_
    rw [HY.out]
    rintro e w1 ⟨rfl, F1, hg1, hs1, hc1⟩
    have HG1 := hid hg1
    have HP1 : Hid (∀ gs' w', GPost w1 bg F1 gs' w' → GPost w bg F gs' w') := hid fun gs' w' h => GPost.trans hs1 hc1 h
    clear hg1 hs1 hc1
    go_wp2_with fail
    refine (not_any _ bg ys F1 a HG1.out (by omega) a0 (by omega)).mono ?_
    rw [HN.out]
    rintro e w2 ⟨rfl, F2, hg2, hs2, hc2⟩
    have HG2 := hid hg2
    have HP2 : Hid (∀ gs' w', GPost w2 bg F2 gs' w' → GPost w1 bg F1 gs' w') := hid fun gs' w' h => GPost.trans hs2 hc2 h
    clear hg2 hs2 hc2
    go_wp2_with fail
    refine (and_pair _ bg ns F2 n zero _ rfl HG2.out hno hn0 hn1 z0 (by omega) (by rw [HPP.out]; exact (by omega : ps.length ≤ 999990))).mono ?_
    rw [HPP.out]
    rintro e w3 ⟨rfl, F3, hg3, hs3, hc3⟩
    have HG3 := hid hg3
    have HP3 : Hid (∀ gs' w', GPost w3 bg F3 gs' w' → GPost w2 bg F2 gs' w') := hid fun gs' w' h => GPost.trans hs3 hc3 h
    clear hg3 hs3 hc3
    go_wp2_with fail
    refine (and_pair _ bg ps F3 a one _ rfl HG3.out hpo a0 (by omega) o0 (by omega) (by rw [HQ.out]; exact (by omega : qs.length ≤ 999990))).mono ?_
    rw [HQ.out]
    rintro e w4 ⟨rfl, F4, hg4, hs4, hc4⟩
    have HG4 := hid hg4
    have HP4 : Hid (∀ gs' w', GPost w4 bg F4 gs' w' → GPost w3 bg F3 gs' w') := hid fun gs' w' h => GPost.trans hs4 hc4 h
    clear hg4 hs4 hc4
    go_wp2_with fail
    refine (or_pair _ bg qs F4 p q _ rfl HG4.out hqo hp0 (by omega) hq0 hq1 (by omega)).mono ?_
    rintro e w5 ⟨rfl, hp⟩
    have HP := hid hp
    clear hp
    go_wp2_with fail
    go_ret
    rw [HC.out]
    exact ⟨rfl, HP1.out _ _ (HP2.out _ _ (HP3.out _ _ (HP4.out _ _ HP.out)))⟩
end Go.Proofs.Ytfabdpnjjondaaa
