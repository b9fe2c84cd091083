/-
  Walks: within, row, rows, sizes, the reference's number, Ints.
-/
import Derived.Test.YtfabdpnjjondaaaA3
set_option linter.unusedVariables false
set_option linter.unusedSimpArgs false
namespace Go.Proofs.Ytfabdpnjjondaaa
open Go.RowKit

set_option maxHeartbeats 400000 in
theorem within_any (x n : Int) (w : World) :
    Calls Try.prog 47 #[.int .i64 x, .int .i64 n] w fun e w' => e = .returned (.bool (decide (0 ≤ x) && decide (x < n))) ∧ w' = w := by
  go_enter Try.func47, Try.ntmps47
  go_wp2
  all_goals (go_ret; exact ⟨ret_bool (by simp; try omega), rfl⟩)

set_option maxHeartbeats 400000 in
theorem row_any {D : Dom} (A : Option Addr) (c : Nat) (l : List Int) (n most : Int) (w : World) (h : RdI w D A c l) :
    Calls Try.prog 48 #[.slice A l.length c, .int .i64 n, .int .i64 most] w fun e w' => e = .returned (.bool (rowB n most l)) ∧ w' = w := by
  have hm := h.len.1
  have HR := hid h
  clear h
  by_cases hn : (l.length : Int) = n
  · subst hn
    go_enter Try.func48, Try.ntmps48
    go_wp2
    go_loop [7] (fun t => ∃ k : Nat, k ≤ l.length ∧ t = .int .i64 k ∧ SoFar k (fun j => decide (0 ≤ l.getD j 0) && decide (l.getD j 0 < most))) (fun t => l.length - (intOf t).toNat)
    case atStart => exact ⟨0, Nat.zero_le _, rfl, SoFar.zero _⟩
    case round =>
      obtain ⟨k, hk, rfl, hb⟩ := hrel
      have HB := hid hb
      clear hb
      by_cases hlt : k < l.length
      · obtain ⟨b, o, x, rfl, _, _, HX, hc⟩ := HR.out.get hlt
        by_cases hx : (decide (0 ≤ x) && decide (x < most)) = true
        · have hx' := hid hx
          clear hx
          go_wp2_with (go_at_call 47; refine (within_any x most _).mono ?_; rintro e w' ⟨rfl, rfl⟩; rw [hx'.out])
          go_round
          case rel => exact ⟨k + 1, by omega, by go_num, HB.out.succ (by rw [HX.out]; exact hx'.out)⟩
          case measure => simp [intOf]; omega
        · have hx' := hid (Bool.eq_false_iff.2 hx)
          clear hx
          go_wp2_with (go_at_call 47; refine (within_any x most _).mono ?_; rintro e w' ⟨rfl, rfl⟩; rw [hx'.out])
          go_ret
          exact ⟨ret_bool (by unfold rowB belowB; rw [allN_false hlt (by rw [HX.out]; exact hx'.out)]; simp), rfl⟩
      · go_wp2
        go_ret
        exact ⟨ret_bool (by unfold rowB belowB; rw [HB.out.all (by omega)]; simp), rfl⟩
  · have hne : ((l.length : Int) != n) = true := by simp [hn]
    have HN := hid hn
    clear hn
    go_enter Try.func48, Try.ntmps48
    go_wp2
    go_ret
    exact ⟨ret_bool (by unfold rowB; simp [HN.out]), rfl⟩

set_option maxHeartbeats 800000 in
theorem rows_any {D : Dom} (n most : Int) (A : Option Addr) (c : Nat) (l : List (List Int)) (w : World) (h : RdII w D A c l) :
    Calls Try.prog 44 #[.int .i64 n, .int .i64 most, .slice A l.length c] w fun e w' => e = .returned (.bool (rowsB n most l)) ∧ w' = w := by
  have hm := h.len.1
  have HR := hid h
  clear h
  go_enter Try.func44, Try.ntmps44
  go_wp2
  go_loop [6, 13] (fun r t => ∃ k : Nat, k ≤ l.length ∧ t = .int .i64 k ∧ r = .bool false ∧ SoFar k (fun j => rowB n most (l.getD j []))) (fun _ t => l.length - (intOf t).toNat)
  case atStart => exact ⟨0, Nat.zero_le _, rfl, rfl, SoFar.zero _⟩
  case round =>
    obtain ⟨k, hk, rfl, rfl, hb⟩ := hrel
    have HB := hid hb
    clear hb
    by_cases hlt : k < l.length
    · obtain ⟨b, o, A', c', r, rfl, _, _, HX, hr, hc⟩ := HR.out.get hlt
      have hmr := hr.len.1
      have HRR := hid hr
      clear hr
      by_cases hn : (r.length : Int) = n
      · have hne : ((r.length : Int) != n) = false := by simp [hn]
        have HN := hid hn
        clear hn
        go_wp2
        go_loop [6, 23] (fun z t => ∃ i : Nat, i ≤ r.length ∧ t = .int .i64 i ∧ z = .bool false ∧ SoFar i (fun j => decide (0 ≤ r.getD j 0) && decide (r.getD j 0 < most))) (fun _ t => r.length - (intOf t).toNat)
        case atStart => exact ⟨0, Nat.zero_le _, rfl, rfl, SoFar.zero _⟩
        case round =>
          obtain ⟨i, hi, rfl, rfl, hb2⟩ := hrel
          have HB2 := hid hb2
          clear hb2
          by_cases hlt2 : i < r.length
          · obtain ⟨b2, o2, x, rfl, _, _, HY, hc2⟩ := HRR.out.get hlt2
            go_wp2
            · go_ret
              exact ⟨ret_bool (by unfold rowsB; rw [allN_false hlt]; rw [HX.out]; unfold rowB belowB; rw [allN_false hlt2 (by rw [HY.out]; simp; omega)]; simp), rfl⟩
            · go_round
              case rel => exact ⟨i + 1, by omega, by go_num, rfl, HB2.out.succ (by rw [HY.out]; simp; omega)⟩
              case measure => simp [intOf]; omega
            · go_ret
              exact ⟨ret_bool (by unfold rowsB; rw [allN_false hlt]; rw [HX.out]; unfold rowB belowB; rw [allN_false hlt2 (by rw [HY.out]; simp; omega)]; simp), rfl⟩
          · go_wp2
            go_round
            case rel => exact ⟨k + 1, by omega, by go_num, rfl, HB.out.succ (by rw [HX.out]; unfold rowB belowB; rw [HB2.out.all (by omega)]; simp [HN.out])⟩
            case measure => simp [intOf]; omega
      · have hne : ((r.length : Int) != n) = true := by simp [hn]
        have HN := hid hn
        clear hn
        go_wp2
        go_ret
        exact ⟨ret_bool (by unfold rowsB; rw [allN_false hlt]; rw [HX.out]; unfold rowB; simp [HN.out]), rfl⟩
    · go_wp2
      go_ret
      exact ⟨ret_bool (by unfold rowsB; rw [HB.out.all (by omega)]), rfl⟩

set_option maxHeartbeats 400000 in
theorem sizes_any (ins outs states start : Int) (w : World) :
    Calls Try.prog 49 #[.int .i64 ins, .int .i64 outs, .int .i64 states, .int .i64 start] w fun e w' =>
      e = .returned (.bool (decide (1 ≤ ins) && decide (ins ≤ 64) && decide (1 ≤ outs) && decide (outs ≤ 64) && decide (states ≤ 3000) && decide (0 ≤ start) && decide (start < states))) ∧ w' = w := by
  go_enter Try.func49, Try.ntmps49
  go_wp2
  all_goals (go_ret; exact ⟨ret_bool (by rw [Bool.eq_iff_iff]; simp only [Bool.and_eq_true, decide_eq_true_eq, Bool.false_eq_true, false_iff]; omega), rfl⟩)

set_option maxHeartbeats 400000 in
theorem refnumber_any {D E : Dom} (A B : Option Addr) (c d : Nat) (vs gs : List Int) (w : World) (hv : RdI w D A c vs) (hg : RdI w E B d gs) (hgl : gs.length ≤ 60)
    (h01 : ∀ j, vs.getD j 0 = 0 ∨ vs.getD j 0 = 1) (hin : ∀ j, j < gs.length → 0 ≤ gs.getD j 0 ∧ gs.getD j 0 < vs.length) :
    Calls Try.prog 32 #[.slice A vs.length c, .slice B gs.length d] w fun e w' => e = .returned (.int .i64 (numZ vs gs)) ∧ Drawn w w' := by
  have hm := hv.len.1
  have HV := hid hv
  have HG := hid hg
  have H01 := hid h01
  have HIN := hid hin
  clear hv hg h01 hin
  go_enter Try.func32, Try.ntmps32
  go_wp2
  go_loopw [5, 6] (fun n t wr => ∃ k : Nat, k ≤ gs.length ∧ t = .int .i64 k ∧ n = .int .i64 (numTo vs gs k) ∧ Drawn w wr) (fun _ t _ => gs.length - (intOf t).toNat)
  case atStart => exact ⟨0, Nat.zero_le _, rfl, rfl, Drawn.refl w⟩
  case round =>
    obtain ⟨k, hk, rfl, rfl, hd⟩ := hrel
    by_cases hlt : k < gs.length
    · obtain ⟨b, o, g, rfl, _, _, HX, hc⟩ := (HG.out.keep hd.keeps).get hlt
      obtain ⟨hg0, hg1⟩ := HIN.out k hlt
      rw [HX.out] at hg0 hg1
      obtain ⟨b', o', v, rfl, _, _, HY, hc'⟩ := (HV.out.keep hd.keeps).get (k := g.toNat) (by omega)
      have h1 := pow2_pos k
      have h2 : 2 * pow2 k ≤ 4611686018427387904 := pow2_lt (n := k + 1) (by omega)
      have hb := numTo_lt vs gs k (fun j _ => H01.out _)
      have hv := H01.out g.toNat
      rw [HY.out] at hv
      obtain ⟨p, hp⟩ : ∃ p, p = pow2 k := ⟨_, rfl⟩
      obtain ⟨n, hn⟩ : ∃ n, n = numTo vs gs k := ⟨_, rfl⟩
      rw [← hn, ← hp] at hb
      rw [← hp] at h1 h2
      rw [← hn]
      have hpv : 0 ≤ p * v ∧ p * v ≤ p := by rcases hv with rfl | rfl <;> simp <;> omega
      have HN := hid hn
      have HP := hid hp
      have HVV := hid hv
      have HC : Hid (∀ w, Calls Try.prog 30 #[.int .i64 k] w fun e w' => e = .returned (.int .i64 p) ∧ w' = w) := hid fun w => by rw [hp]; exact power_any k w (by omega)
      clear hn hp hv
      go_wp2
      go_quiet ((go_at_call 30; exact Calls.quiet_of_same (HC.out _)))
      go_wp2
      go_roundw
      case rel =>
        refine ⟨k + 1, by omega, by go_num, ?_, hd.drewN _⟩
        show _ = Value.int IntKind.i64 (numTo vs gs k + pow2 k * vs.getD (gs.getD k 0).toNat 0)
        rw [HX.out, HY.out, ← HN.out, ← HP.out]
      case measure => simp [intOf]; omega
    · go_wp2
      go_ret
      exact ⟨ret_int (by unfold numZ; congr 1; omega), hd⟩
end Go.Proofs.Ytfabdpnjjondaaa
