/-
  Walk: Same of the reference, for two circuits that are alike.
-/
import Derived.Test.YtfabdpnjjondaaaA13
import Derived.Test.YtfabdpnjjondaaaG2
set_option linter.unusedVariables false
set_option linter.unusedSimpArgs false
namespace Go.Proofs.Ytfabdpnjjondaaa
open Go.RowKit
attribute [local go_sem] cell_alloc_old

theorem gate_alike (g : Gt) (w : World) : (binOp .neq 45 (.agg #[.int .i64 g.k, .int .i64 g.a, .int .i64 g.b]) (.agg #[.int .i64 g.k, .int .i64 g.a, .int .i64 g.b])).run Try.prog w = .ok (.bool false) w := by
  have := gate_equal w g g
  unfold gval at this
  simp only [binOp]
  simp [this]

set_option maxRecDepth 100000 in
set_option maxHeartbeats 4000000 in
theorem same_any {D E : Dom} (va vb : Value) (c : Cir) (w : World) (ha : RdC w D va c) (hb : RdC w E vb c) :
    Calls Try.prog 20 #[va, vb] w fun e w' => e = .returned (.bool true) ∧ Below w.heap.size w w' := by
  obtain ⟨Ag, cg, Al, cl, Ao, co, rfl, hg, hl, ho⟩ := ha
  obtain ⟨Bg, bg, Bl, bl, Bo, bo, rfl, kg, kl, ko⟩ := hb
  have HG := hid hg.old
  have HL := hid hl.old
  have HO := hid ho.old
  have KG := hid kg.old
  have KL := hid kl.old
  have KO := hid ko.old
  have n1 := hg.len.1
  have n2 := hl.len.1
  have n3 := ho.len.1
  have e1 : ((c.gates.length : Int) != (c.gates.length : Int)) = false := by simp
  have e2 : ((c.lat.length : Int) != (c.lat.length : Int)) = false := by simp
  have e3 : ((c.outs.length : Int) != (c.outs.length : Int)) = false := by simp
  have e4 : (c.ib != c.ib) = false := by simp
  clear hg hl ho kg kl ko
  go_enter Try.func20, Try.ntmps20
  go_upto_region 1 with (fail)
  refine wp_gen fun W hW => ?_
  have hbW : Below w.heap.size w W := by rw [hW]; go_grown
  have hx : Box W w.heap.size #[.int .i64 c.ib, .slice Ag c.gates.length cg, .slice Al c.lat.length cl, .slice Ao c.outs.length co] := by
    rw [hW]; exact (Box.new _ _ _ rfl).alloc _
  have hy : Box W (w.heap.size + 1) #[.int .i64 c.ib, .slice Bg c.gates.length bg, .slice Bl c.lat.length bl, .slice Bo c.outs.length bo] := by
    rw [hW]; exact Box.new _ _ _ (by simp)
  have HXB := hid hx
  have HYB := hid hy
  have HBW := hid hbW
  have x0 := hx 0 _ rfl
  have x1 := hx 1 _ rfl
  have x2 := hx 2 _ rfl
  have x3 := hx 3 _ rfl
  have y0 := hy 0 _ rfl
  have y1 := hy 1 _ rfl
  have y2 := hy 2 _ rfl
  have y3 := hy 3 _ rfl
  have hlt0 : w.heap.size < W.heap.size := World.block_lt_of_cell? W _ x0
  have hlt1 : w.heap.size + 1 < W.heap.size := World.block_lt_of_cell? W _ y0
  clear hW hbW hx hy
  have OPEN : Hid (∀ wr, Drawn W wr → Below w.heap.size w wr ∧ Box wr w.heap.size #[.int .i64 c.ib, .slice Ag c.gates.length cg, .slice Al c.lat.length cl, .slice Ao c.outs.length co] ∧ Box wr (w.heap.size + 1) #[.int .i64 c.ib, .slice Bg c.gates.length bg, .slice Bl c.lat.length bl, .slice Bo c.outs.length bo] ∧ w.heap.size + 1 < wr.heap.size) := hid fun wr hd => by
    have hy := HYB.out.below (hd.below W.heap.size) (Nat.le_refl _)
    exact ⟨HBW.out.trans (hd.below _), HXB.out.below (hd.below W.heap.size) (Nat.le_refl _), hy, World.block_lt_of_cell? wr _ (hy 0 _ rfl)⟩
  go_wp2_with fail
  go_loopw [4, 5] (fun r t wr => ∃ k : Nat, k ≤ c.gates.length ∧ t = .int .i64 k ∧ r = .bool false ∧ Drawn W wr) (fun _ t _ => c.gates.length - (intOf t).toNat)
  case atStart => exact ⟨0, Nat.zero_le _, rfl, rfl, Drawn.refl _⟩
  case round =>
    obtain ⟨k, hk, rfl, rfl, hd⟩ := hrel
    obtain ⟨hb, hx, hy, hwr⟩ := OPEN.out wr hd
    have x1 := hx 1 _ rfl
    have y1 := hy 1 _ rfl
    have x2 := hx 2 _ rfl
    have y2 := hy 2 _ rfl
    have HK := hid (Keeps.of_below hb (D := fun b => b < w.heap.size) (fun _ h => h))
    clear hb hx hy
    by_cases hlt : k < c.gates.length
    · obtain ⟨b, o, g, rfl, _, had, HX, h0, h1, h2⟩ := (HG.out.keep HK.out).get hlt
      obtain ⟨b', o', g', rfl, _, had', HX', h0', h1', h2'⟩ := (KG.out.keep HK.out).get hlt
      obtain rfl : g = g' := HX.out.symm.trans HX'.out
      have hne := gate_alike g
      have hki : (k : Int) < c.gates.length := by omega
      go_wp2_with fail
      go_quiet (fail)
      go_wp2_with fail
      go_roundw
      case rel => exact ⟨k + 1, by omega, by go_num, rfl, hd.drewN _⟩
      case measure => simp [intOf]; omega
    · go_wp2_with fail
      go_loopw [4, 6] (fun r t wr => ∃ k : Nat, k ≤ c.lat.length ∧ t = .int .i64 k ∧ r = .bool false ∧ Drawn W wr) (fun _ t _ => c.lat.length - (intOf t).toNat)
      case atStart => exact ⟨0, Nat.zero_le _, rfl, rfl, hd⟩
      case round =>
        obtain ⟨k, hk, rfl, rfl, hd⟩ := hrel
        obtain ⟨hb, hx, hy, hwr⟩ := OPEN.out wr hd
        have x1 := hx 2 _ rfl
        have y1 := hy 2 _ rfl
        have x2 := hx 3 _ rfl
        have y2 := hy 3 _ rfl
        have HK := hid (Keeps.of_below hb (D := fun b => b < w.heap.size) (fun _ h => h))
        clear hb hx hy
        by_cases hlt : k < c.lat.length
        · obtain ⟨b, o, g, rfl, _, had, HX, h0⟩ := (HL.out.keep HK.out).get hlt
          obtain ⟨b', o', g', rfl, _, had', HX', h0'⟩ := (KL.out.keep HK.out).get hlt
          obtain rfl : g = g' := HX.out.symm.trans HX'.out
          have hne : (g != g) = false := by simp
          have hki : (k : Int) < c.lat.length := by omega
          go_wp2_with fail
          go_quiet (fail)
          go_wp2_with fail
          go_roundw
          case rel => exact ⟨k + 1, by omega, by go_num, rfl, hd.drewN _⟩
          case measure => simp [intOf]; omega
        · go_wp2_with fail
          go_loopw [4, 7] (fun r t wr => ∃ k : Nat, k ≤ c.outs.length ∧ t = .int .i64 k ∧ r = .bool false ∧ Drawn W wr) (fun _ t _ => c.outs.length - (intOf t).toNat)
          case atStart => exact ⟨0, Nat.zero_le _, rfl, rfl, hd⟩
          case round =>
            obtain ⟨k, hk, rfl, rfl, hd⟩ := hrel
            obtain ⟨hb, hx, hy, hwr⟩ := OPEN.out wr hd
            have x1 := hx 3 _ rfl
            have y1 := hy 3 _ rfl
            have HK := hid (Keeps.of_below hb (D := fun b => b < w.heap.size) (fun _ h => h))
            have HB := hid hb
            clear hb hx hy
            by_cases hlt : k < c.outs.length
            · obtain ⟨b, o, g, rfl, _, had, HX, h0⟩ := (HO.out.keep HK.out).get hlt
              obtain ⟨b', o', g', rfl, _, had', HX', h0'⟩ := (KO.out.keep HK.out).get hlt
              obtain rfl : g = g' := HX.out.symm.trans HX'.out
              have hne : (g != g) = false := by simp
              have hki : (k : Int) < c.outs.length := by omega
              go_wp2_with fail
              go_quiet (fail)
              go_wp2_with fail
              go_roundw
              case rel => exact ⟨k + 1, by omega, by go_num, rfl, hd.drewN _⟩
              case measure => simp [intOf]; omega
            · go_wp2_with fail
              go_ret
              exact ⟨rfl, HB.out⟩
end Go.Proofs.Ytfabdpnjjondaaa
