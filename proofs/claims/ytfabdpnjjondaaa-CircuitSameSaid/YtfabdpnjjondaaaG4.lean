/-
  Walks of not, constant, and, or, choose.
-/
import Derived.Test.YtfabdpnjjondaaaG3
set_option linter.unusedVariables false
set_option linter.unusedSimpArgs false
namespace Go.Proofs.Ytfabdpnjjondaaa
open Go.RowKit
attribute [local go_sem] cell_alloc_old

theorem build_g1 (w : World) : (Instr.build 45 #[(0, .int .i64 1)]).run Try.prog w = .ok (.agg #[.int .i64 1, .int .i64 0, .int .i64 0]) w := run_build w 45 _ _ (by kernel_rfl)
theorem build_g2 (a : Int) (w : World) : (Instr.build 45 #[(0, .int .i64 5), (1, .int .i64 a)]).run Try.prog w = .ok (.agg #[.int .i64 5, .int .i64 a, .int .i64 0]) w := run_build w 45 _ _ (by kernel_rfl)
theorem build_g3 (a b : Int) (w : World) : (Instr.build 45 #[(0, .int .i64 4), (1, .int .i64 a), (2, .int .i64 b)]).run Try.prog w = .ok (.agg #[.int .i64 4, .int .i64 a, .int .i64 b]) w := run_build w 45 _ _ (by kernel_rfl)
attribute [local go_sem] build_g1 build_g2 build_g3

theorem Gat.rd {w : World} {bg : Nat} {gs : GS} {F : Dom} (h : Gat w bg gs F) (hl : gs.length ≤ 1000000) : ∃ A c, w.cell? ⟨bg, 0, none⟩ = some (.slice A gs.length c) ∧ bg < w.heap.size ∧ RdG w (fun _ => True) A c gs := by
  obtain ⟨A, c, mb, h1, h2, h3, h4⟩ := h
  exact ⟨A, c, block_cell h1 rfl, lt_of_block h1, Rd.own h2 (by omega) (fun _ _ => trivial)⟩
theorem GPost.self {w w' : World} {bg : Nat} {gs : GS} {F : Dom} (h : Gat w bg gs F) (hb : Below w.heap.size w w') : GPost w bg F gs w' :=
  ⟨F, h.below hb, fun _ h => .inl h, Chg.of_below hb⟩
theorem GPost.after {w w' w'' : World} {bg : Nat} {gs : GS} {F : Dom} (hb : Below w.heap.size w w') (k : GPost w' bg F gs w'') : GPost w bg F gs w'' :=
  GPost.trans (fun _ h => .inl h) (Chg.of_below hb) k
theorem GPost.then_ {w w' w'' : World} {bg : Nat} {gs : GS} {F : Dom} (h : GPost w bg F gs w') (hb : Below w'.heap.size w' w'') : GPost w bg F gs w'' := by
  obtain ⟨F', h1, h2, h3⟩ := h
  exact ⟨F', h1.below hb, h2, h3.trans (F' := F) (Chg.of_below hb) (fun _ h => .inl h)⟩

set_option maxHeartbeats 1000000 in
theorem not_any (w : World) (bg : Nat) (gs : GS) (F : Dom) (a : Int) (hG : Gat w bg gs F) (hl : gs.length ≤ 1000000) (h0 : 0 ≤ a) (h1 : a < gs.length) :
    Calls Try.prog 58 #[.pointer (some ⟨bg, 0, none⟩), .int .i64 a] w fun e w' =>
      e = .returned (.int .i64 (notG gs a).1) ∧ GPost w bg F (notG gs a).2 w' := by
  obtain ⟨A, c, hc, hbl, hr⟩ := hG.rd hl
  obtain ⟨b, o, g, rfl, _, had, HX, g0, g1, g2⟩ := hr.get (k := a.toNat) (by omega)
  clear hr
  by_cases h5 : g.k = 5
  · have hk : (g.k == 5) = true := beq_iff_eq.2 h5
    have HN : Hid (notG gs a = (g.a, gs)) := hid (by unfold notG; rw [HX.out, if_pos h5])
    clear h5
    go_enter Try.func58, Try.ntmps58
    go_wp2_with fail
    go_ret
    rw [HN.out]
    exact ⟨rfl, GPost.self hG (by go_grown)⟩
  · have hk : (g.k == 5) = false := beq_eq_false_iff_ne.2 h5
    have HN : Hid (notG gs a = addG gs ⟨5, a, 0⟩) := hid (by unfold notG; rw [HX.out, if_neg h5])
    clear h5
    go_enter Try.func58, Try.ntmps58
    go_wp2_with fail
    refine (add_any _ bg gs F ⟨5, a, 0⟩ (hG.below (by go_grown)) hl).mono ?_
    rintro e w1 ⟨rfl, hp⟩
    have HP := hid hp
    clear hp
    go_wp2_with fail
    go_ret
    rw [HN.out]
    exact ⟨rfl, GPost.after (by go_grown) HP.out⟩

set_option maxHeartbeats 1000000 in
theorem const_any (w : World) (bg : Nat) (gs : GS) (F : Dom) (v : Int) (hG : Gat w bg gs F) (hl : gs.length ≤ 999999) {ib nl : Int} (hok : Ok ib nl gs) :
    Calls Try.prog 55 #[.pointer (some ⟨bg, 0, none⟩), .int .i64 v] w fun e w' =>
      e = .returned (.int .i64 (constG gs v).1) ∧ GPost w bg F (constG gs v).2 w' := by
  have hu := add_up hok (g := ⟨1, 0, 0⟩) (by simp [gateB])
  have hlen : (addG gs ⟨1, 0, 0⟩).2.length ≤ gs.length + 1 := by unfold addG; split <;> simp
  by_cases h1 : v = 1
  · have hk : (v == 1) = true := beq_iff_eq.2 h1
    have HC : Hid (constG gs v = notG (addG gs ⟨1, 0, 0⟩).2 (addG gs ⟨1, 0, 0⟩).1) := hid (by unfold constG; rw [if_pos h1])
    have HU := hid hu
    clear h1
    go_enter Try.func55, Try.ntmps55
    go_wp2_with fail
    refine (add_any _ bg gs F ⟨1, 0, 0⟩ hG (by omega)).mono ?_
    rintro e w1 ⟨rfl, F1, hg1, hs1, hc1⟩
    have HG1 := hid hg1
    have HS1 := hid hs1
    have HC1 := hid hc1
    clear hg1 hs1 hc1
    go_wp2_with fail
    refine (not_any _ bg (addG gs ⟨1, 0, 0⟩).2 F1 (addG gs ⟨1, 0, 0⟩).1 HG1.out (by omega) HU.out.lo HU.out.hi).mono ?_
    rintro e w2 ⟨rfl, hp⟩
    have HP := hid hp
    clear hp
    go_wp2_with fail
    go_ret
    rw [HC.out]
    exact ⟨rfl, GPost.trans HS1.out HC1.out HP.out⟩
  · have hk : (v == 1) = false := beq_eq_false_iff_ne.2 h1
    have HC : Hid (constG gs v = addG gs ⟨1, 0, 0⟩) := hid (by unfold constG; rw [if_neg h1])
    clear h1
    go_enter Try.func55, Try.ntmps55
    go_wp2_with fail
    refine (add_any _ bg gs F ⟨1, 0, 0⟩ hG (by omega)).mono ?_
    rintro e w1 ⟨rfl, hp⟩
    have HP := hid hp
    clear hp
    go_wp2_with fail
    go_ret
    rw [HC.out]
    exact ⟨rfl, HP.out⟩
end Go.Proofs.Ytfabdpnjjondaaa
