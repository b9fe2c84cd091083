/-
  Walks of the leaves of layer 28: below, power, bit, the two functions number, Bits, width, within, row, rows, sizes.
-/
import Derived.Test.YtfabdpnjjondaaaS28
set_option linter.unusedVariables false
set_option linter.unusedSimpArgs false
namespace Go.Proofs.Ytfabdpnjjondaaa
open Go.RowKit

set_option maxHeartbeats 400000 in
theorem below_any {D : Dom} (n : Int) (A : Option Addr) (c : Nat) (xs : List Int) (w : World) (h : RdI w D A c xs) :
    Calls Try.prog 28 #[.int .i64 n, .slice A xs.length c] w fun e w' => e = .returned (.bool (belowB n xs)) ∧ w' = w := by
  have hm := h.len.1
  have HR := hid h
  clear h
  go_enter Try.func28, Try.ntmps28
  go_wp2
  go_loop [4, 9] (fun r t => ∃ k : Nat, k ≤ xs.length ∧ t = .int .i64 k ∧ r = .bool false ∧ SoFar k (fun j => decide (0 ≤ xs.getD j 0) && decide (xs.getD j 0 < n))) (fun _ t => xs.length - (intOf t).toNat)
  case atStart => exact ⟨0, Nat.zero_le _, rfl, rfl, SoFar.zero _⟩
  case round =>
    obtain ⟨k, hk, rfl, rfl, hb⟩ := hrel
    have HB := hid hb
    clear hb
    by_cases hlt : k < xs.length
    · obtain ⟨b, o, x, rfl, _, _, HX, hc⟩ := HR.out.get hlt
      go_wp2
      · go_ret
        exact ⟨ret_bool (by unfold belowB; rw [allN_false hlt]; rw [HX.out]; simp; omega), rfl⟩
      · go_round
        case rel => exact ⟨k + 1, by omega, by go_num, rfl, HB.out.succ (by rw [HX.out]; simp; omega)⟩
        case measure => simp [intOf]; omega
      · go_ret
        exact ⟨ret_bool (by unfold belowB; rw [allN_false hlt]; rw [HX.out]; simp; omega), rfl⟩
    · go_wp2
      go_ret
      exact ⟨ret_bool (by unfold belowB; rw [HB.out.all (by omega)]), rfl⟩

theorem below_one {D : Dom} (n x : Int) (b o : Nat) (w : World) (hb : D b) (hc : w.cell? ⟨b, o, none⟩ = some (.int .i64 x)) :
    Calls Try.prog 28 #[.int .i64 n, .slice (some ⟨b, o, none⟩) 1 1] w fun e w' => e = .returned (.bool (decide (0 ≤ x) && decide (x < n))) ∧ w' = w := by
  refine (below_any (D := D) n (some ⟨b, o, none⟩) 1 [x] w (RdI.one hb hc)).mono ?_
  rintro e w' ⟨rfl, rfl⟩
  exact ⟨ret_bool (by simp [belowB, allN, List.range_succ]), rfl⟩

/-- below called with one number: the row of one cell has just been laid. -/
theorem below_new (n x : Int) (k : Nat) (w : World) (hk : k = w.heap.size) :
    Calls Try.prog 28 #[.int .i64 n, .slice (some ⟨k, 0, none⟩) 1 1] (w.alloc (.cells #[.int .i64 x] 3)) fun e w' => e = .returned (.bool (decide (0 ≤ x) && decide (x < n))) ∧ w' = w.alloc (.cells #[.int .i64 x] 3) :=
  below_one (D := fun _ => True) n x k 0 _ trivial (cell_new _ _ _ _ _ _ hk rfl)

theorem pow2_pos : ∀ n, 1 ≤ pow2 n
  | 0 => by simp [pow2]
  | n + 1 => by have := pow2_pos n; unfold pow2; omega
theorem pow2_mono : ∀ {m n : Nat}, m ≤ n → pow2 m ≤ pow2 n
  | m, 0, h => by obtain rfl : m = 0 := by omega
                  simp
  | m, n + 1, h => by
    rcases Nat.lt_or_ge n m with h' | h'
    · obtain rfl : m = n + 1 := by omega
      exact Int.le_refl _
    · have := pow2_mono h'
      have := pow2_pos n
      simp only [pow2] at *; omega
theorem pow2_62 : pow2 62 = 4611686018427387904 := by decide +kernel
theorem pow2_lt {n : Nat} (h : n ≤ 62) : pow2 n ≤ 4611686018427387904 := by rw [← pow2_62]; exact pow2_mono h

set_option maxHeartbeats 400000 in
theorem power_any (b : Nat) (w : World) (hb : b ≤ 62) :
    Calls Try.prog 30 #[.int .i64 b] w fun e w' => e = .returned (.int .i64 (pow2 b)) ∧ w' = w := by
  go_enter Try.func30, Try.ntmps30
  go_wp2
  go_loop [3, 4] (fun p i => ∃ k : Nat, k ≤ b ∧ i = .int .i64 k ∧ p = .int .i64 (pow2 k)) (fun _ i => b - (intOf i).toNat)
  case atStart => exact ⟨0, Nat.zero_le _, rfl, rfl⟩
  case round =>
    obtain ⟨k, hk, rfl, rfl⟩ := hrel
    obtain ⟨p, hp⟩ : ∃ p, p = pow2 k := ⟨_, rfl⟩
    have h1 : 0 ≤ p := by have := pow2_pos k; omega
    rw [← hp]
    have HP := hid hp
    clear hp
    by_cases hlt : k < b
    · have h2 : p ≤ 2305843009213693952 := by
        have : pow2 (k + 1) ≤ 4611686018427387904 := pow2_lt (by omega)
        rw [HP.out]; simp only [pow2] at this; omega
      go_wp2
      go_round
      case rel => exact ⟨k + 1, by omega, by go_num, by rw [HP.out]; simp [pow2]⟩
      case measure => simp [intOf]; omega
    · go_wp2
      go_ret
      exact ⟨ret_int (by rw [HP.out]; congr 1; omega), rfl⟩
end Go.Proofs.Ytfabdpnjjondaaa
