/-
  Walks of Compile's two closures.
-/
import Derived.Test.YtfabdpnjjondaaaG10
import Derived.Test.YtfabdpnjjondaaaA8
set_option linter.unusedVariables false
set_option linter.unusedSimpArgs false
namespace Go.Proofs.Ytfabdpnjjondaaa
open Go.RowKit
attribute [local go_sem] cell_alloc_old

set_option maxHeartbeats 1000000 in
theorem clo1_any {D : Dom} (w : World) (bm bi : Nat) (i : Nat) (m : Mly) (q x : Int) (cs : Array Value) (hv : RdM w D (.agg cs) m) (hbm : Box w bm cs) (hbi : Box w bi #[.int .i64 i])
    (hi : i ≤ 62) (q0 : 0 ≤ q) (q1 : q < m.out.length) (x0 : 0 ≤ x) (x1 : x < (m.out.getD q.toNat []).length) (hv0 : 0 ≤ (m.out.getD q.toNat []).getD x.toNat 0) (hv1 : (m.out.getD q.toNat []).getD x.toNat 0 ≤ 65536) :
    Calls Try.prog 40 #[.int .i64 q, .int .i64 x, .pointer (some ⟨bm, 0, none⟩), .pointer (some ⟨bi, 0, none⟩)] w fun e w' =>
      e = .returned (.int .i64 (bitZ ((m.out.getD q.toNat []).getD x.toNat 0) i)) ∧ Drawn w w' := by
  obtain ⟨Ao, co, An, cn, hcs, hro, -⟩ := hv
  injection hcs with hcs
  subst hcs
  have c3 := hbm 3 _ rfl
  have ci := hbi 0 _ rfl
  obtain ⟨Q, rfl⟩ : ∃ Q : Nat, q = Q := ⟨q.toNat, by omega⟩
  obtain ⟨X, rfl⟩ : ∃ X : Nat, x = X := ⟨x.toNat, by omega⟩
  rw [Int.toNat_natCast] at x1 hv0 hv1
  rw [Int.toNat_natCast] at hv0 hv1
  obtain ⟨b, o, A', c', r, rfl, -, hbl, HR, hr, hc⟩ := hro.get (k := Q) (by omega)
  rw [HR.out] at x1 hv0 hv1
  obtain ⟨b2, o2, y, rfl, -, hbl2, HY, hc2⟩ := hr.get (k := X) (by omega)
  rw [HY.out] at hv0 hv1
  have hrl := hr.len.1
  have hml := hro.len.1
  have HF : Hid (bits .and .i64 (y / 2 ^ i) 1 = bitZ ((m.out.getD ((Q : Int)).toNat []).getD ((X : Int)).toNat 0) i) := hid (by
    rw [Int.toNat_natCast, Int.toNat_natCast, HR.out, HY.out]; exact bit_shift y i hv0 (by omega))
  clear hro hr HR HY hbm hbi
  go_enter Try.func40, Try.ntmps40
  go_wp2_with fail
  go_quiet (fail)
  go_wp2_with fail
  go_ret
  rw [HF.out]
  exact ⟨rfl, Drawn.n _ _⟩

set_option maxHeartbeats 1000000 in
theorem clo2_any {D : Dom} (w : World) (bm bi bp bt : Nat) (i : Nat) (m : Mly) (q x : Int) (cs : Array Value) (hv : RdM w D (.agg cs) m) (hbm : Box w bm cs) (hbi : Box w bi #[.int .i64 i])
    (hp : Box w bp #[.pointer (some ⟨bt, 0, none⟩)]) (ht : w.cell? ⟨bt, 1, none⟩ = some (.int .i64 m.start))
    (hi : i ≤ 62) (q0 : 0 ≤ q) (q1 : q < m.next.length) (x0 : 0 ≤ x) (x1 : x < (m.next.getD q.toNat []).length) (hv0 : 0 ≤ codeZ m.start ((m.next.getD q.toNat []).getD x.toNat 0)) (hv1 : codeZ m.start ((m.next.getD q.toNat []).getD x.toNat 0) ≤ 65536) :
    Calls Try.prog 41 #[.int .i64 q, .int .i64 x, .pointer (some ⟨bp, 0, none⟩), .pointer (some ⟨bm, 0, none⟩), .pointer (some ⟨bi, 0, none⟩)] w fun e w' =>
      e = .returned (.int .i64 (bitZ (codeZ m.start ((m.next.getD q.toNat []).getD x.toNat 0)) i)) ∧ Drawn w w' := by
  obtain ⟨Ao, co, An, cn, hcs, -, hro⟩ := hv
  injection hcs with hcs
  subst hcs
  have c4 := hbm 4 _ rfl
  have ci := hbi 0 _ rfl
  have cp := hp 0 _ rfl
  obtain ⟨Q, rfl⟩ : ∃ Q : Nat, q = Q := ⟨q.toNat, by omega⟩
  obtain ⟨X, rfl⟩ : ∃ X : Nat, x = X := ⟨x.toNat, by omega⟩
  rw [Int.toNat_natCast] at x1 hv0 hv1
  rw [Int.toNat_natCast] at hv0 hv1
  obtain ⟨b, o, A', c', r, rfl, -, hbl, HR, hr, hc⟩ := hro.get (k := Q) (by omega)
  rw [HR.out] at x1 hv0 hv1
  obtain ⟨b2, o2, y, rfl, -, hbl2, HY, hc2⟩ := hr.get (k := X) (by omega)
  rw [HY.out] at hv0 hv1
  have hrl := hr.len.1
  have hml := hro.len.1
  obtain ⟨z, hz⟩ : ∃ z, codeZ m.start y = z := ⟨_, rfl⟩
  rw [hz] at hv0 hv1
  have HF : Hid (bits .and .i64 (z / 2 ^ i) 1 = bitZ (codeZ m.start ((m.next.getD ((Q : Int)).toNat []).getD ((X : Int)).toNat 0)) i) := hid (by
    rw [Int.toNat_natCast, Int.toNat_natCast, HR.out, HY.out, hz]; exact bit_shift z i hv0 (by omega))
  have HC : Hid (∀ n : Nat, Calls Try.prog 42 #[.pointer (some ⟨bt, 0, none⟩), .int .i64 y] (w.drewN n) fun e w' => e = .returned (.int .i64 z) ∧ w' = w.drewN n) := hid fun n => by
    rw [← hz]
    exact code_any (w.drewN n) bt m.start y ht
  clear hro hr HR HY hbm hbi hp hz
  go_enter Try.func41, Try.ntmps41
  go_wp2_with fail
  go_quiet ((go_at_call 42; exact Calls.quiet_of_same (HC.out _)))
  go_wp2_with fail
  go_ret
  rw [HF.out]
  exact ⟨rfl, Drawn.n _ _⟩
end Go.Proofs.Ytfabdpnjjondaaa
