/-
  Slices of bytes; the law's function at, which follows a path into a formula.
-/
import Derived.StillTailTactics
import Derived.Test.YtdakdpfofgkjoaaGreatDoorZ42
import Derived.Test.YtdakdpfofgkjoaaGreatDoorZ30
set_option linter.unusedVariables false
set_option linter.unusedSimpArgs false
namespace Go.Proofs.YtdakdpfofgkjoaaGreatDoor
open Go.RowKit Go.Shelf
attribute [local go_sem] cell_alloc_old

/-- A slice of bytes. -/
def RdY (w : World) (D : Dom) (A : Option Addr) (c : Nat) (zs : List Int) : Prop := Rd w D 1 A zs.length c (zs.map (.int .u8)) ∧ ∀ i, i < zs.length → 0 ≤ zs.getD i 0 ∧ zs.getD i 0 ≤ 255
section
variable {D E : Dom} {w w' : World} {A : Option Addr} {c : Nat} {zs : List Int}
theorem RdY.len (h : RdY w D A c zs) : zs.length ≤ 140737488355328 ∧ zs.length ≤ c ∧ c ≤ 9223372036854775807 := h.1.1.2
theorem RdY.keep (h : RdY w D A c zs) (hk : Keeps D w w') : RdY w' D A c zs := ⟨Rd.keep h.1 hk, h.2⟩
theorem RdY.mono (h : RdY w D A c zs) (hE : ∀ b, D b → b < w.heap.size → E b) : RdY w E A c zs := ⟨Rd.mono h.1 hE, h.2⟩
theorem RdY.old (h : RdY w D A c zs) : RdY w (· < w.heap.size) A c zs := h.mono fun _ _ hl => hl
theorem RdY.any (h : RdY w D A c zs) (hb : Below w.heap.size w w') : RdY w' AnyD A c zs := (h.old.keep (Keeps.of_below hb fun _ h => h)).mono fun _ _ _ => trivial
theorem RdY.get {k : Nat} (h : RdY w D A c zs) (hk : k < zs.length) : ∃ b o x, A = some ⟨b, o, none⟩ ∧ D b ∧ b < w.heap.size ∧ Hid (zs.getD k 0 = x) ∧ 0 ≤ x ∧ x ≤ 255 ∧ w.cell? ⟨b, o + k, none⟩ = some (.int .u8 x) := by
  obtain ⟨b, o, e, hb, hl, hc⟩ := h.1.2 (by omega)
  have := h.2 k hk
  exact ⟨b, o, _, e, hb, hl, hid rfl, this.1, this.2, hc k _ (by simp [List.getD, hk])⟩
end
/-- g is f or within it. -/
def Part (g f : Fm) : Prop := ∀ Q : Fm → Prop, (∀ x y, Q x → y ∈ x.args → Q y) → Q f → Q g
theorem Part.refl (f : Fm) : Part f f := fun _ _ h => h
theorem Part.arg {g f x : Fm} (h : Part g f) (hx : x ∈ g.args) : Part x f := fun Q hq hf => hq g x (h Q hq hf) hx
theorem conv_u8 (x : Int) (h0 : 0 ≤ x) (h1 : x ≤ 255) (w : World) : (Go.convert 5 3 (.int .u8 x)).run Tryz.prog w = .ok (.int .i64 x) w := by
  rw [run_convert_int w 5 3 .u8 _ (by kernel_rfl) (by kernel_rfl)]
  have e : Tryz.prog.intKind 3 = .i64 := by kernel_rfl
  rw [e, IntWalk.i64_in _ (by omega)]
set_option maxRecDepth 100000 in
set_option maxHeartbeats 4000000 in
theorem at_any {D E : Dom} (f : Fm) (v : Value) (A : Option Addr) (n c : Nat) (zs : List Int) (w : World) (h : RdF3 w D v f) (hn : n = zs.length) (hz : RdY w E A c zs) :
    Calls Tryz.prog 22 #[v, .slice A n c] w fun e w' => ∃ g v', e = .returned v' ∧ RdF3 w' AnyD v' g ∧ Part g f ∧ Below w.heap.size w w' := by
  subst hn
  obtain ⟨AF, cF, rfl, ha⟩ := h
  have HA := hid ha.old
  have HZ := hid hz.old
  have hlz := hz.len.1
  clear ha hz
  go_enter Tryz.func22, Tryz.ntmps22
  go_upto_region 1 with (fail)
  refine wp_gen fun W hW => ?_
  have HB := hid (show Below w.heap.size w W by rw [hW]; go_grown)
  have HO := hid (show OB W w.heap.size f.op f.name f.val f.bound AF f.args.length cF by rw [hW]; exact (at_old _ _ _ (by simp)).trans (at_new _ _ _ rfl))
  have HR := hid (show OB W (w.heap.size + 1) 0 ⟨#[]⟩ 0 0 none 0 0 by rw [hW]; exact at_new _ _ _ (by simp))
  clear hW
  go_wp2_with fail
  go_loopw [5] (fun i wr => ∃ (k : Nat) (g : Fm) (A' : Option Addr) (c' : Nat), k ≤ zs.length ∧ i = .int .i64 (k : Int) ∧ Hid (OB wr w.heap.size g.op g.name g.val g.bound A' g.args.length c') ∧ Hid (OB wr (w.heap.size + 1) 0 ⟨#[]⟩ 0 0 none 0 0) ∧ Hid (RdA wr (· < w.heap.size) g.args A' c') ∧ Hid (Part g f) ∧ Hid (Below w.heap.size w wr)) (fun i _ => zs.length - (intOf i).toNat)
  case atStart => exact ⟨0, f, AF, cF, Nat.zero_le _, rfl, HO.out, HR.out, HA.out.keep (Keeps.of_below HB.out fun _ h => h), Part.refl f, HB.out⟩
  case round =>
    obtain ⟨k, g, A', c', hk, rfl, HO, HR, HG, HP, HB⟩ := hrel
    obtain ⟨g0, g1, g2, g3, g4, g5⟩ := HO.out.cells
    have hgl := HG.out.len.1
    by_cases hlt : k < zs.length
    · have hki : (k : Int) < zs.length := by omega
      by_cases hl0 : 0 < g.args.length
      · have hli : 0 < (g.args.length : Int) := by omega
        have HZr := hid (HZ.out.keep (Keeps.of_below HB.out fun _ h => h))
        obtain ⟨bz, oz, x, rfl, hbz, hbl, HX, hx0, hx1, hc1⟩ := HZr.out.get hlt
        obtain ⟨r, hr, hrl⟩ : ∃ r : Nat, x % (g.args.length : Int) = (r : Int) ∧ r < g.args.length :=
          ⟨(x % (g.args.length : Int)).toNat, by have := Int.emod_nonneg x (b := (g.args.length : Int)) (by omega); omega, by have := Int.emod_nonneg x (b := (g.args.length : Int)) (by omega); have := Int.emod_lt_of_pos x (b := (g.args.length : Int)) (by omega); omega⟩
        have htm : x.tmod (g.args.length : Int) = (r : Int) := by rw [Int.tmod_eq_emod_of_nonneg hx0]; exact hr
        obtain ⟨b1, o1, A1, c1, y, rfl, HY, hf1⟩ := HG.out.get hrl
        have HFY := hid hf1
        obtain ⟨hd1, hl1, y0, y1, y2, y3, y4, ya⟩ := hf1
        have hcv := fun W => conv_u8 x hx0 hx1 W
        have hne : ¬ (g.args.length : Int) = 0 := by omega
        have hne2 : ((g.args.length : Int) == 0) = false := beq_false_of hne
        have hnn : ¬ g.args.length = 0 := by omega
        have hwr : IntKind.i64.wrap (r : Int) = (r : Int) := IntWalk.i64_in _ (by omega)
        have hr0 : (0 : Int) ≤ (r : Int) := by omega
        have hri : (r : Int) < g.args.length := by omega
        have hk0 : (0 : Int) ≤ (k : Int) := by omega
        have q0 := HO.out.free 0
        have q1 := HO.out.free 1
        have q2 := HO.out.free 2
        have q3 := HO.out.free 3
        have q4 := HO.out.free 4
        clear hk HX
        go_upto_region 4 with (fail)
        go_still_tail 13, (by kernel_rfl)
        simp only [World.drew_eq]
        go_wp2_with fail
        go_roundw
        case rel =>
          have hc := set5_chg0 wr w.heap.size (.int .i64 y.op) (.string y.name) (.int .i64 y.val) (.int .i64 y.bound) (.slice A1 y.args.length c1)
          refine ⟨k + 1, y, A1, c1, by omega, by go_num, (set5_OB HO.out).below (Below.refl _ _).drew, ?_, ?_, HP.out.arg (by rw [← HY.out]; exact getD_memF hrl), ?_⟩
          · exact OB.below (hc.box HR.out (by show ¬ w.heap.size + 1 = w.heap.size; omega)) (Below.refl _ _).drew
          · exact (HFY.out.args.keep (hc.keeps fun x _ hx hv => by have hx' : x < w.heap.size := hx; have hv' : x = w.heap.size := hv; omega)).belowD (Below.refl _ _).drew
          · exact (HB.out.trans (hc.below (B := w.heap.size) (fun x hx hv => by have hv' : x = w.heap.size := hv; omega) HB.out.size)).drew
        case measure => simp [intOf]; omega
      · have hli : ¬ 0 < (g.args.length : Int) := by omega
        have p0 := HR.out.free 0
        have p1 := HR.out.free 1
        have p2 := HR.out.free 2
        have p3 := HR.out.free 3
        have p4 := HR.out.free 4
        obtain ⟨r0, r1, r2, r3, r4, r5⟩ := HR.out.cells
        clear hk
        go_wp2_with fail
        refine bodyPost_gen fun W9 hW9 => ?_
        have hO9 : OB W9 (w.heap.size + 1) g.op g.name g.val g.bound A' g.args.length c' := by rw [hW9]; exact set5_OB HR.out
        have hC9 : Chg (fun k => k = w.heap.size + 1) wr W9 := by rw [hW9]; exact set5_chg0 _ _ _ _ _ _ _
        clear hW9 p0 p1 p2 p3 p4 r0 r1 r2 r3 r4 r5
        obtain ⟨r0, r1, r2, r3, r4, r5⟩ := hO9.cells
        exact bodyPost_ret (v := .agg #[.int .i64 g.op, .string g.name, .int .i64 g.val, .int .i64 g.bound, .slice A' g.args.length c']) (by simp [results, Tryz.results22, go_sem, r0, r1, r2, r3, r4]) rfl ⟨g, _, rfl, ⟨A', c', rfl, (HG.out.keep (hC9.keeps fun x _ hx hv => by have hx' : x < w.heap.size := hx; have hv' : x = w.heap.size + 1 := hv; omega)).mono fun _ _ _ => trivial⟩, HP.out, HB.out.trans (hC9.below (B := w.heap.size) (fun x hx hv => by have hv' : x = w.heap.size + 1 := hv; omega) HB.out.size)⟩
    · have hki : ¬ (k : Int) < zs.length := by omega
      have p0 := HR.out.free 0
      have p1 := HR.out.free 1
      have p2 := HR.out.free 2
      have p3 := HR.out.free 3
      have p4 := HR.out.free 4
      obtain ⟨r0, r1, r2, r3, r4, r5⟩ := HR.out.cells
      clear hk
      go_wp2_with fail
      refine bodyPost_gen fun W9 hW9 => ?_
      have hO9 : OB W9 (w.heap.size + 1) g.op g.name g.val g.bound A' g.args.length c' := by rw [hW9]; exact set5_OB HR.out
      have hC9 : Chg (fun k => k = w.heap.size + 1) wr W9 := by rw [hW9]; exact set5_chg0 _ _ _ _ _ _ _
      clear hW9 p0 p1 p2 p3 p4 r0 r1 r2 r3 r4 r5
      obtain ⟨r0, r1, r2, r3, r4, r5⟩ := hO9.cells
      exact bodyPost_ret (v := .agg #[.int .i64 g.op, .string g.name, .int .i64 g.val, .int .i64 g.bound, .slice A' g.args.length c']) (by simp [results, Tryz.results22, go_sem, r0, r1, r2, r3, r4]) rfl ⟨g, _, rfl, ⟨A', c', rfl, (HG.out.keep (hC9.keeps fun x _ hx hv => by have hx' : x < w.heap.size := hx; have hv' : x = w.heap.size + 1 := hv; omega)).mono fun _ _ _ => trivial⟩, HP.out, HB.out.trans (hC9.below (B := w.heap.size) (fun x hx hv => by have hv' : x = w.heap.size + 1 := hv; omega) HB.out.size)⟩
end Go.Proofs.YtdakdpfofgkjoaaGreatDoor
