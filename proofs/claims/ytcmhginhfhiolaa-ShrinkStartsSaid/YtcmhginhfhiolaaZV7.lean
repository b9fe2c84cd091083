/-
  Walk of the law on other starts.
-/
import Derived.Test.YtcmhginhfhiolaaZ35
set_option linter.unusedVariables false
set_option linter.unusedSimpArgs false
namespace Go.Proofs.Ytcmhginhfhiolaa
open Go.RowKit
attribute [local go_sem] cell_alloc_old

/-- Block b holds the controller m, whose rows lie in blocks below c. -/
structure HasN (w : World) (b c : Nat) (cs : Array Value) (m : Mly) : Prop where
  blk : w.heap[b]? = some (.cells cs 24 (0, 0))
  rd : RdM w (· < c) (.agg cs) m
theorem HasN.start {w : World} {b c : Nat} {x0 x1 x2 x3 x4 : Value} {m : Mly} (h : HasN w b c #[x0, x1, x2, x3, x4] m) (hc : c ≤ b) (s : Int) : HasN (w.setCell ⟨b, 2, none⟩ (.int .i64 s)) b c #[x0, x1, .int .i64 s, x3, x4] ⟨m.ins, m.outs, s, m.out, m.next⟩ := by
  refine ⟨by rw [set_block h.blk]; rfl, ?_⟩
  obtain ⟨Ao, co, An, cn, e, ho, hn⟩ := h.rd
  have hk : Keeps (fun k => k < c) w (w.setCell ⟨b, 2, none⟩ (.int .i64 s)) := ⟨by simp, fun k hk _ => Below.heap_setCell _ _ _ _ (by have hk : k < c := hk; show k ≠ b; omega)⟩
  injection e with e
  injection e with e
  simp only [List.cons.injEq, and_true] at e
  obtain ⟨e0, e1, e2, e3, e4⟩ := e
  exact ⟨Ao, co, An, cn, by rw [e0, e1, e3, e4], ho.keep hk, hn.keep hk⟩
theorem HasN.other {w : World} {b b' c : Nat} {cs : Array Value} {m : Mly} (h : HasN w b c cs m) (hc : c ≤ b') (hne : b ≠ b') (v : Value) : HasN (w.setCell ⟨b', 2, none⟩ v) b c cs m :=
  ⟨(Below.heap_setCell _ _ _ _ hne).trans h.blk, h.rd.keep ⟨by simp, fun k hk _ => Below.heap_setCell _ _ _ _ (by have hk : k < c := hk; show k ≠ b'; omega)⟩⟩
theorem HasN.cells {w : World} {b c : Nat} {x0 x1 x2 x3 x4 : Value} {m : Mly} (h : HasN w b c #[x0, x1, x2, x3, x4] m) : w.cell? ⟨b, 0, none⟩ = some x0 ∧ w.cell? ⟨b, 1, none⟩ = some x1 ∧ w.cell? ⟨b, 2, none⟩ = some x2 ∧ w.cell? ⟨b, 3, none⟩ = some x3 ∧ w.cell? ⟨b, 4, none⟩ = some x4 ∧ w.frozen? ⟨b, 2, none⟩ = false ∧ b < w.heap.size :=
  ⟨block_cell h.blk rfl, block_cell h.blk rfl, block_cell h.blk rfl, block_cell h.blk rfl, block_cell h.blk rfl, block_free h.blk, lt_of_block h.blk⟩
theorem HasN.below {w w' : World} {b c : Nat} {cs : Array Value} {m : Mly} (h : HasN w b c cs m) (hb : Below w.heap.size w w') : HasN w' b c cs m :=
  ⟨(hb.block _ (lt_of_block h.blk)).trans h.blk, h.rd.keep ⟨hb.size, fun k _ hl => hb.block k hl⟩⟩

set_option maxRecDepth 100000 in
set_option maxHeartbeats 4000000 in
theorem law7_any {D : Dom} (w : World) (v : Value) (m : Mly) (a b : Int) (h : RdM w D v m) (a0 : 0 ≤ a) (a1 : a ≤ 255) (b0 : 0 ≤ b) (b1 : b ≤ 255) :
    Calls Try.prog 9 #[v, .int .u8 a, .int .u8 b] w fun e w' => e = .returned (.bool true) ∧ Below w.heap.size w w' := by
  have HV := hid h.old
  obtain ⟨Ao, co, An, cn, rfl, ho, hn⟩ := h
  clear ho hn
  go_enter Try.func9, Try.ntmps9
  go_upto_region 1 with (fail)
  refine wp_gen fun W hW => ?_
  have HM := hid (show HasM W w.heap.size _ m by rw [hW]; exact HasM.new HV.out)
  have HBW := hid (show Below w.heap.size w W by rw [hW]; go_grown)
  clear hW
  go_wp2_with fail
  refine (head_any W).mono ?_
  rintro e W1 ⟨rfl, hb⟩
  have HM := hid (HM.out.below hb)
  have HBW := hid (HBW.out.trans (hb.mono HBW.out.size))
  clear hb
  obtain ⟨x0, x1, x2, x3, x4, xl⟩ := HM.out.cells
  go_wp2_with fail
  refine (fine_any _ m W1 HM.out.rd).mono ?_
  rintro e W2 ⟨rfl, hb⟩
  have HM := hid (HM.out.below hb)
  have HBW := hid (HBW.out.trans (hb.mono HBW.out.size))
  clear hb x0 x1 x2 x3 x4 xl
  cases hf : smallB m && mealyB m
  · go_wp2_with fail
    go_ret
    exact ⟨rfl, HBW.out⟩
  · rw [Bool.and_eq_true] at hf
    have HF := hid hf
    have hsm := small_sizes hf.1
    clear hf
    obtain ⟨x0, x1, x2, x3, x4, xl⟩ := HM.out.cells
    go_wp2_with fail
    refine (least_get HF.out.2 HM.out.rd).mono ?_
    rintro e W3 ⟨X, Bo, bo, Bn, bn, rfl, hb, hr, hl⟩
    have hsh := quo_shape (sized_of HF.out.2) hl
    have HL := hid hl
    have HSH := hid hsh
    have hn1 := hsh.2.2.2.2.1.n1
    have hn2 : X.out.length ≤ 3000 := hsh.2.2.2.2.1.n2
    have HR := hid hr.old
    have HBW := hid (HBW.out.trans (hb.mono HBW.out.size))
    clear hb hr hl hsh x0 x1 x2 x3 x4 xl
    have hnb : (X.out.length : Int) ≠ 0 := by omega
    have hna : ¬ (X.out.length : Int) = 0 := hnb
    obtain ⟨p, hp⟩ : ∃ p, p = a % (X.out.length : Int) := ⟨_, rfl⟩
    obtain ⟨q, hq⟩ : ∃ q, q = b % (X.out.length : Int) := ⟨_, rfl⟩
    have hp0 : 0 ≤ p ∧ p < X.out.length := by rw [hp]; exact ⟨Int.emod_nonneg _ hnb, Int.emod_lt_of_pos _ (by omega)⟩
    have hq0 : 0 ≤ q ∧ q < X.out.length := by rw [hq]; exact ⟨Int.emod_nonneg _ hnb, Int.emod_lt_of_pos _ (by omega)⟩
    have hpt : a.tmod (X.out.length : Int) = p := by rw [hp]; exact Int.tmod_eq_emod_of_nonneg a0
    have hqt : b.tmod (X.out.length : Int) = q := by rw [hq]; exact Int.tmod_eq_emod_of_nonneg b0
    have hwa : IntKind.i64.wrap a = a := IntWalk.i64_in _ (by omega)
    have hwb : IntKind.i64.wrap b = b := IntWalk.i64_in _ (by omega)
    have hbe : ((X.out.length : Int) == 0) = false := beq_eq_false_iff_ne.2 hnb
    clear hp hq
    go_upto_region 9 with (fail)
    refine wp_gen fun W4 hW4 => ?_
    have hX : HasN W4 W3.heap.size W3.heap.size _ X := ⟨by rw [hW4]; (repeat (first | (refine at_new _ _ _ ?_; (simp only [World.size_alloc]; done)) | (refine (at_old _ _ _ ?_).trans ?_; (simp only [World.size_alloc]; omega)))), HR.out.keep (by rw [hW4]; exact ((Keeps.refl _ _).alloc _).alloc _)⟩
    have hY : HasN W4 (W3.heap.size + 1) W3.heap.size _ X := ⟨by rw [hW4]; (repeat (first | (refine at_new _ _ _ ?_; (simp only [World.size_alloc]; done)) | (refine (at_old _ _ _ ?_).trans ?_; (simp only [World.size_alloc]; omega)))), HR.out.keep (by rw [hW4]; exact ((Keeps.refl _ _).alloc _).alloc _)⟩
    have hb4 : Below W3.heap.size W3 W4 := by rw [hW4]; go_grown
    have HX := hid hX
    have HY := hid hY
    have HB4 := hid (HBW.out.trans (hb4.mono HBW.out.size))
    obtain ⟨x0, x1, x2, x3, x4, xf, xl⟩ := hX.cells
    obtain ⟨y0, y1, y2, y3, y4, yf, yl⟩ := hY.cells
    have hw3 := HBW.out.size
    clear hW4 hX hY hb4
    go_upto_region 11 with (fail)
    refine wp_gen fun W5 hW5 => ?_
    have h1 := (HX.out.start (Nat.le_refl _) p).other (b' := W3.heap.size + 1) (by omega) (by omega) (.int .i64 q)
    have h2 := (HY.out.other (b' := W3.heap.size) (Nat.le_refl _) (by omega) (.int .i64 p)).start (by omega) q
    have hb5 : Below w.heap.size w W5 := by rw [hW5]; exact (HB4.out.setCell (p := ⟨W3.heap.size, 2, none⟩) hw3 _).setCell (p := ⟨W3.heap.size + 1, 2, none⟩) (by show _ ≤ W3.heap.size + 1; omega) _
    rw [← hW5] at h1 h2
    have H1 := hid h1
    have H2 := hid h2
    have HB5 := hid hb5
    clear hW5 h1 h2 hb5 x0 x1 x2 x3 x4 xf xl y0 y1 y2 y3 y4 yf yl
    obtain ⟨r, hr⟩ := bool_iff (SameP ⟨X.ins, X.outs, p, X.out, X.next⟩ ⟨X.ins, X.outs, q, X.out, X.next⟩)
    have hpq : (p == q) = r := by
      rw [Bool.eq_iff_iff, beq_iff_eq, hr]
      exact (least_starts HF.out.2 HL.out hp0.1 hp0.2 hq0.1 hq0.2).symm
    obtain ⟨x0, x1, x2, x3, x4, xf, xl⟩ := H1.out.cells
    obtain ⟨y0, y1, y2, y3, y4, yf, yl⟩ := H2.out.cells
    have HSK : Hid (∀ W' : World, Below W5.heap.size W5 W' → W'.cell? ⟨W3.heap.size, 0, none⟩ = some (.int .i64 X.ins) ∧ W'.cell? ⟨W3.heap.size, 1, none⟩ = some (.int .i64 X.outs) ∧ W'.cell? ⟨W3.heap.size, 2, none⟩ = some (.int .i64 p) ∧ W'.cell? ⟨W3.heap.size, 3, none⟩ = some (.slice Bo X.out.length bo) ∧ W'.cell? ⟨W3.heap.size, 4, none⟩ = some (.slice Bn X.next.length bn) ∧
        W'.cell? ⟨W3.heap.size + 1, 0, none⟩ = some (.int .i64 X.ins) ∧ W'.cell? ⟨W3.heap.size + 1, 1, none⟩ = some (.int .i64 X.outs) ∧ W'.cell? ⟨W3.heap.size + 1, 2, none⟩ = some (.int .i64 q) ∧ W'.cell? ⟨W3.heap.size + 1, 3, none⟩ = some (.slice Bo X.out.length bo) ∧ W'.cell? ⟨W3.heap.size + 1, 4, none⟩ = some (.slice Bn X.next.length bn)) := hid fun W' hb => by
      obtain ⟨x0, x1, x2, x3, x4, xf, xl⟩ := (H1.out.below hb).cells
      obtain ⟨y0, y1, y2, y3, y4, yf, yl⟩ := (H2.out.below hb).cells
      exact ⟨x0, x1, x2, x3, x4, y0, y1, y2, y3, y4⟩
    have HI1 := hid (show Below W5.heap.size W5 W5.drew from (Below.refl _ _).drew)
    have HI2 := hid (show ∀ i, Below W5.heap.size W5 (W5.drewN i) from fun i => (Drawn.n W5 i).below _)
    have HCALL : Hid (∀ W' : World, Below W5.heap.size W5 W' → Calls Try.prog 16 #[.agg #[.int .i64 X.ins, .int .i64 X.outs, .int .i64 p, .slice Bo X.out.length bo, .slice Bn X.next.length bn], .agg #[.int .i64 X.ins, .int .i64 X.outs, .int .i64 q, .slice Bo X.out.length bo, .slice Bn X.next.length bn]] W' fun e W'' => e = .returned (.bool r) ∧ Below W5.heap.size W5 W'') := hid fun W' hb =>
      (same_get hr (H1.out.below hb).rd (H2.out.below hb).rd).mono fun e W'' ⟨h1, h2⟩ => ⟨h1, hb.trans (h2.mono hb.size)⟩
    clear hr
    go_region_held3 (fun W' => W'.cell? ⟨W3.heap.size, 0, none⟩ = some (.int .i64 X.ins) ∧ W'.cell? ⟨W3.heap.size, 1, none⟩ = some (.int .i64 X.outs) ∧ W'.cell? ⟨W3.heap.size, 2, none⟩ = some (.int .i64 p) ∧ W'.cell? ⟨W3.heap.size, 3, none⟩ = some (.slice Bo X.out.length bo) ∧ W'.cell? ⟨W3.heap.size, 4, none⟩ = some (.slice Bn X.next.length bn) ∧
        W'.cell? ⟨W3.heap.size + 1, 0, none⟩ = some (.int .i64 X.ins) ∧ W'.cell? ⟨W3.heap.size + 1, 1, none⟩ = some (.int .i64 X.outs) ∧ W'.cell? ⟨W3.heap.size + 1, 2, none⟩ = some (.int .i64 q) ∧ W'.cell? ⟨W3.heap.size + 1, 3, none⟩ = some (.slice Bo X.out.length bo) ∧ W'.cell? ⟨W3.heap.size + 1, 4, none⟩ = some (.slice Bn X.next.length bn))
      (first
        | (with_reducible exact HSK.out _ hI)
        | (go_keep; done))
      ((go_at_call 16; refine (HCALL.out _ (by first | exact HI1.out | exact HI2.out _)).mono ?_; rintro e W6 ⟨rfl, hI⟩))
    all_goals
      have HI := hid (HB5.out.trans (hI.mono HB5.out.size))
      clear hI x0 x1 x2 x3 x4 xf xl y0 y1 y2 y3 y4 yf yl
      go_wp2_with fail
      go_ret
      exact ⟨ret_bool (by simp [hpq]), HI.out⟩
end Go.Proofs.Ytcmhginhfhiolaa
