/-
  Walks: Len64, Len, width.
-/
import Derived.Test.YtfabdpnjjondaaaA2
import Derived.Lib.BitFns
set_option linter.unusedVariables false
set_option linter.unusedSimpArgs false
namespace Go.Proofs.Ytfabdpnjjondaaa
open Go.RowKit

set_option maxRecDepth 100000 in
theorem len8tab_size : (Lib.len8tab.size : Int) = 256 := by
  have : Lib.len8tab.size = 256 := by decide
  omega
theorem len8_get (y : Int) (h : y.toNat < Lib.len8tab.size) (h0 : 0 ≤ y) (h1 : y ≤ 255) : ((Lib.len8tab[y.toNat]'h).toNat : Int) = Lib.bitLen y.toNat := by
  rw [← Lib.len8_of y h0 h1]
  unfold Lib.len8
  rw [getElem?_pos Lib.len8tab y.toNat h]
  rfl

set_option maxHeartbeats 1000000 in
theorem len64_any (x : Int) (w : World) (h0 : 0 ≤ x) (h1 : x ≤ 65535) :
    Calls Try.prog 54 #[.int .u64 x] w fun e w' => e = .returned (.int .i64 (Lib.bitLen x.toNat)) ∧ w' = w := by
  have hs := len8tab_size
  by_cases hx : 256 ≤ x
  · have ht : 0 ≤ x / 256 ∧ x / 256 < (Lib.len8tab.size : Int) := ⟨by omega, by omega⟩
    clear hs
    have hg := len8_get (x / 256) (by omega) (by omega) (by omega)
    have hl := Lib.bitLen_le8' (x / 256) (by omega) (by omega)
    have hsh := Lib.bitLen_shift8 x.toNat (by omega) (by omega)
    have HG := hid hg
    have HL := hid hl
    have HSH := hid hsh
    clear hg hl hsh
    go_enter Try.func54, Try.ntmps54
    go_wp2
    go_ret
    refine ⟨ret_int ?_, rfl⟩
    have e := HL.out
    rw [HG.out, HSH.out]
    have : (x / 256).toNat = x.toNat / 256 := by omega
    rw [this] at e ⊢
    unfold wrap64
    omega
  · have ht : 0 ≤ x ∧ x < (Lib.len8tab.size : Int) := ⟨by omega, by omega⟩
    clear hs
    have hg := len8_get x (by omega) (by omega) (by omega)
    have hl := Lib.bitLen_le8' x (by omega) (by omega)
    have HG := hid hg
    have HL := hid hl
    clear hg hl
    go_enter Try.func54, Try.ntmps54
    go_wp2
    go_ret
    refine ⟨ret_int ?_, rfl⟩
    have e := HL.out
    rw [HG.out]
    unfold wrap64
    omega

set_option maxHeartbeats 400000 in
theorem len_any (x : Int) (w : World) (h0 : 0 ≤ x) (h1 : x ≤ 65535) :
    Calls Try.prog 51 #[.int .u64 x] w fun e w' => e = .returned (.int .i64 (Lib.bitLen x.toNat)) ∧ w' = w := by
  go_enter Try.func51, Try.ntmps51
  go_wp2_with (go_at_call 54; refine (len64_any x _ h0 h1).mono ?_; rintro e w' ⟨rfl, rfl⟩)
  go_ret
  exact ⟨rfl, rfl⟩

theorem bitLen_range (m : Nat) (hm : 0 < m) (h : m < 65536) : pow2 (Lib.bitLen m) ≤ 2 * (m : Int) ∧ (m : Int) < pow2 (Lib.bitLen m) := by
  induction m using Nat.strongRecOn with
  | _ m ih =>
    rw [Lib.bitLen_half m (by omega) (by omega)]
    rcases Nat.lt_or_ge m 2 with h2 | h2
    · obtain rfl : m = 1 := by omega
      decide
    · have := ih (m / 2) (by omega) (by omega) (by omega)
      rw [Nat.add_comm, pow2]
      omega
theorem bitsFrom_eq (n : Int) : ∀ (f b k : Nat), b ≤ k → k ≤ b + f → n ≤ pow2 k → (∀ j, b ≤ j → j < k → pow2 j < n) → bitsFrom n f b = k
  | 0, b, k, h1, h2, _, _ => by simp only [bitsFrom]; omega
  | f + 1, b, k, h1, h2, h3, h4 => by
    unfold bitsFrom
    by_cases e : b = k
    · subst e
      rw [if_neg (by omega)]
    · rw [if_pos (h4 b (Nat.le_refl _) (by omega))]
      exact bitsFrom_eq n f (b + 1) k (by omega) (by omega) h3 (fun j a b => h4 j (by omega) b)
theorem bitsN_eq (n : Int) (k : Nat) (hk : k ≤ 63) (h : n ≤ pow2 k) (h' : ∀ j, j < k → pow2 j < n) : bitsN n = k :=
  bitsFrom_eq n 63 0 k (Nat.zero_le _) (by omega) h (fun j _ hj => h' j hj)
theorem bitLen_bits (n : Int) (h1 : 1 ≤ n) (h2 : n ≤ 65536) : (Lib.bitLen (n - 1).toNat) = bitsN n := by
  rcases Int.lt_or_eq_of_le h1 with h | rfl
  · obtain ⟨m, hm⟩ : ∃ m : Nat, m = (n - 1).toNat := ⟨_, rfl⟩
    have hr := bitLen_range m (by omega) (by omega)
    have hb := Lib.bitLen_le m 16 (by omega) (by omega)
    rw [← hm]
    refine (bitsN_eq n _ (by omega) (by omega) fun j hj => ?_).symm
    have := pow2_mono (m := j + 1) (n := Lib.bitLen m) (by omega)
    rw [pow2] at this
    omega
  · decide
theorem bitsN_le (n : Int) (h1 : 1 ≤ n) (h2 : n ≤ 65536) : bitsN n ≤ 16 := by
  rw [← bitLen_bits n h1 h2]
  exact Lib.bitLen_le _ 16 (by omega) (by omega)
theorem bitsN_range (n : Int) (h1 : 1 ≤ n) (h2 : n ≤ 65536) : n ≤ pow2 (bitsN n) ∧ (1 < n → pow2 (bitsN n) ≤ 2 * (n - 1)) := by
  rcases Int.lt_or_eq_of_le h1 with h | rfl
  · have hr := bitLen_range (n - 1).toNat (by omega) (by omega)
    rw [bitLen_bits n h1 h2] at hr
    omega
  · exact ⟨by decide, fun h => by omega⟩

set_option maxHeartbeats 400000 in
theorem width_any (n : Int) (w : World) (h1 : 1 ≤ n) (h2 : n ≤ 65536) :
    Calls Try.prog 38 #[.int .i64 n] w fun e w' => e = .returned (.int .i64 (bitsN n)) ∧ w' = w := by
  go_enter Try.func38, Try.ntmps38
  go_wp2_with (go_at_call 51; refine (len_any (n - 1) _ (by omega) (by omega)).mono ?_; rintro e w' ⟨rfl, rfl⟩)
  go_ret
  exact ⟨ret_int (by rw [← bitLen_bits n h1 h2]; congr 2; omega), rfl⟩
end Go.Proofs.Ytfabdpnjjondaaa
