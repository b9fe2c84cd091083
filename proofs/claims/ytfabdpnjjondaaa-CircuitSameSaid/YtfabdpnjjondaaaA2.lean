/-
  Walks: bit, the two functions number, Bits, width.
-/
import Derived.Test.YtfabdpnjjondaaaA1
import Derived.Test.YtfabdpnjjondaaaBits
set_option linter.unusedVariables false
set_option linter.unusedSimpArgs false
namespace Go.Proofs.Ytfabdpnjjondaaa
open Go.RowKit

set_option maxHeartbeats 400000 in
theorem bit_any (n : Int) (i : Nat) (w : World) (hn : 0 ≤ n) (hn2 : n ≤ 9223372036854775807) (hi : i ≤ 62) :
    Calls Try.prog 46 #[.int .i64 n, .int .i64 i] w fun e w' => e = .returned (.int .i64 (bitZ n i)) ∧ w' = w := by
  have hp := pow2_pos i
  have hp2 := pow2_lt hi
  obtain ⟨p, hpe⟩ : ∃ p, p = pow2 i := ⟨_, rfl⟩
  rw [← hpe] at hp hp2
  have HP := hid hpe
  clear hpe
  go_enter Try.func46, Try.ntmps46
  go_wp2_with (go_at_call 30; refine (power_any i _ hi).mono ?_; rintro e w' ⟨rfl, rfl⟩; rw [← HP.out])
  go_ret
  exact ⟨ret_int (by unfold bitZ; rw [HP.out]; exact Int.tmod_eq_emod_of_nonneg (Int.ediv_nonneg hn (by have := pow2_pos i; omega))), rfl⟩

theorem pow2_eq : ∀ k, pow2 k = 2 ^ k
  | 0 => rfl
  | k + 1 => by rw [pow2, pow2_eq k, Int.pow_succ, Int.mul_comm]
theorem numTo_lt (vs gs : List Int) : ∀ k, (∀ j, j < k → vs.getD (gs.getD j 0).toNat 0 = 0 ∨ vs.getD (gs.getD j 0).toNat 0 = 1) → 0 ≤ numTo vs gs k ∧ numTo vs gs k < pow2 k
  | 0, _ => by simp [numTo, pow2]
  | k + 1, h => by
    have := numTo_lt vs gs k (fun j hj => h j (by omega))
    rcases h k (by omega) with e | e <;> simp only [numTo, pow2, e] <;> omega

set_option maxHeartbeats 400000 in
theorem number_any {D E : Dom} (A B : Option Addr) (c d : Nat) (vs gs : List Int) (w : World) (hv : RdI w D A c vs) (hg : RdI w E B d gs) (hgl : gs.length ≤ 60)
    (h01 : ∀ j, vs.getD j 0 = 0 ∨ vs.getD j 0 = 1) (hin : ∀ j, j < gs.length → 0 ≤ gs.getD j 0 ∧ gs.getD j 0 < vs.length) :
    Calls Try.prog 45 #[.slice A vs.length c, .slice B gs.length d] w fun e w' => e = .returned (.int .i64 (numZ vs gs)) ∧ w' = w := by
  have hm := hv.len.1
  have HV := hid hv
  have HG := hid hg
  have H01 := hid h01
  have HIN := hid hin
  clear hv hg h01 hin
  go_enter Try.func45, Try.ntmps45
  go_wp2
  go_loop [5, 10] (fun n t => ∃ k : Nat, k ≤ gs.length ∧ t = .int .i64 k ∧ n = .int .i64 (numTo vs gs k)) (fun _ t => gs.length - (intOf t).toNat)
  case atStart => exact ⟨0, Nat.zero_le _, rfl, rfl⟩
  case round =>
    obtain ⟨k, hk, rfl, rfl⟩ := hrel
    by_cases hlt : k < gs.length
    · obtain ⟨b, o, g, rfl, _, _, HX, hc⟩ := HG.out.get hlt
      obtain ⟨hg0, hg1⟩ := HIN.out k hlt
      rw [HX.out] at hg0 hg1
      obtain ⟨b', o', v, rfl, _, _, HY, hc'⟩ := HV.out.get (k := g.toNat) (by omega)
      obtain ⟨n, hn⟩ : ∃ n, n = numTo vs gs k := ⟨_, rfl⟩
      rw [← hn]
      have HN := hid hn
      clear hn
      go_wp2
      go_round
      case rel =>
        have e := HN.out
        have e1 := H01.out g.toNat
        rw [HY.out] at e1
        have hb := numTo_lt vs gs k (fun j _ => H01.out _)
        refine ⟨k + 1, by omega, by go_num, ?_⟩
        rw [e, i64_or_add _ _ k (by omega) (by rw [← pow2_eq]; omega) e1 (by omega)]
        show _ = Value.int IntKind.i64 (numTo vs gs k + pow2 k * vs.getD (gs.getD k 0).toNat 0)
        rw [HX.out, HY.out, pow2_eq]
      case measure => simp [intOf]; omega
    · go_wp2
      go_ret
      exact ⟨ret_int (by unfold numZ; congr 1; omega), rfl⟩

set_option maxHeartbeats 400000 in
theorem bits_any (n : Int) (w : World) (hn : n ≤ 4611686018427387904) :
    Calls Try.prog 22 #[.int .i64 n] w fun e w' => e = .returned (.int .i64 (bitsN n)) ∧ w' = w := by
  go_enter Try.func22, Try.ntmps22
  go_wp2
  go_loop [3, 4] (fun b p => ∃ k f : Nat, k + f = 63 ∧ k ≤ 62 ∧ b = .int .i64 k ∧ p = .int .i64 (pow2 k) ∧ bitsFrom n f k = bitsN n) (fun b _ => 63 - (intOf b).toNat)
  case atStart => exact ⟨0, 63, by omega, by omega, rfl, rfl, rfl⟩
  case round =>
    obtain ⟨k, f, hf, hk, rfl, rfl, hb⟩ := hrel
    have h0 := pow2_pos k
    have h2 := pow2_lt hk
    have hs : pow2 (k + 1) = 2 * pow2 k := rfl
    have hlt : k = 62 → pow2 k = 4611686018427387904 := fun e => by rw [e, pow2_62]
    obtain ⟨f, rfl⟩ : ∃ g, f = g + 1 := ⟨f - 1, by omega⟩
    unfold bitsFrom at hb
    generalize pow2 (k + 1) = q at hs
    obtain ⟨p, hp⟩ : ∃ p, p = pow2 k := ⟨_, rfl⟩
    rw [← hp] at h0 h2 hs hlt hb ⊢
    have HP := hid hp
    have HB := hid hb
    have HS := hid hs
    clear hp hb hs
    by_cases hc : p < n
    · have hk1 : k < 62 := by
        rcases Nat.lt_or_ge k 62 with h | h
        · exact h
        · have := hlt (by omega); omega
      clear hlt
      have h3 : p ≤ 2305843009213693952 := by
        have := pow2_lt (n := k + 1) (by omega)
        simp only [pow2] at this; rw [← HP.out] at this; omega
      go_wp2
      go_round
      case rel => exact ⟨k + 1, f, by omega, by omega, by go_num, by rw [HP.out]; simp [pow2], by have := HB.out; rwa [if_pos hc] at this⟩
      case measure => simp [intOf]; omega
    · clear hlt
      go_wp2
      go_ret
      exact ⟨ret_int (by have := HB.out; rw [if_neg (by omega)] at this; rw [this]), rfl⟩
end Go.Proofs.Ytfabdpnjjondaaa
