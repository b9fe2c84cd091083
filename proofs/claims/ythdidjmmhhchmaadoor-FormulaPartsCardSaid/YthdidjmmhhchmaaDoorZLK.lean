/-
  Walk of FormulaExpansion.
-/
import Derived.Test.YthdidjmmhhchmaaDoorZ32
set_option linter.unusedVariables false
set_option linter.unusedSimpArgs false
namespace Go.Proofs.YthdidjmmhhchmaaDoor
open Go.RowKit Go.Shelf
attribute [local go_sem] cell_alloc_old buildF_ob

theorem VF.of {w : World} {D : Dom} {f : Fm} {A : Option Addr} {c : Nat} (h : RdA w D f.args A c) : VF w f.op f.name f.val f.bound A f.args.length c f := ⟨f.args, f.eta.symm, rfl, h.mono fun _ _ _ => trivial⟩
theorem pair_lit {w : World} {o : Int} {n : ByteArray} {v b : Int} {A : Option Addr} {k c : Nat} {f : Fm} {o2 : Int} {n2 : ByteArray} {v2 b2 : Int} {A2 : Option Addr} {k2 c2 : Nat} {f2 : Fm} (hp : pairB f f2 = true) (h : VF w o n v b A k c f) (h2 : VF w o2 n2 v2 b2 A2 k2 c2 f2) (hg : GF w) (hk : GK w) :
    Calls Tryd.prog 15 #[.agg #[.int .i64 o, .string n, .int .i64 v, .int .i64 b, .slice A k c], .agg #[.int .i64 o2, .string n2, .int .i64 v2, .int .i64 b2, .slice A2 k2 c2]] w fun e w' => e = .returned (.bool true) ∧ Below w.heap.size w w' := by
  rw [← hp]; exact pair_any f f2 _ _ w h.rd h2.rd hg hk
theorem small_lit {w : World} {o : Int} {n : ByteArray} {v b : Int} {A : Option Addr} {k c : Nat} {f : Fm} (m : Nat) (l : Int) (hl : l = (m : Int)) (hm : m ≤ 1000000) (r : Bool) (hr : decide (f.size ≤ m) = r) (h : VF w o n v b A k c f) :
    Calls Tryd.prog 7 #[.agg #[.int .i64 o, .string n, .int .i64 v, .int .i64 b, .slice A k c], .int .i64 l] w fun e w' => e = .returned (.bool r) ∧ Below w.heap.size w w' := by
  subst hl
  rw [← hr]; exact rsmall_any f _ m w h.rd hm
/-- A formula with one argument and a bound, that is laid in memory. -/
theorem mk_bnd {W W' : World} {o : Int} {n : ByteArray} {v b : Int} {A : Option Addr} {k c : Nat} {f : Fm} (p bd : Int) (h : VF W o n v b A k c f)
    (hW : W' = (W.alloc (.cells #[.int .i64 o, .string n, .int .i64 v, .int .i64 b, .slice A k c] 24)).alloc (.cells #[.int .i64 p, .string ⟨#[]⟩, .int .i64 0, .int .i64 bd, .slice (some ⟨W.heap.size, 0, none⟩) 1 1] 24)) :
    Below W.heap.size W W' ∧ OB W' (W.heap.size + 1) p ⟨#[]⟩ 0 bd (some ⟨W.heap.size, 0, none⟩) 1 1 ∧ VF W' p ⟨#[]⟩ 0 bd (some ⟨W.heap.size, 0, none⟩) 1 1 (bndF p bd f) := by
  have hb : Below W.heap.size W W' := by rw [hW]; exact ((Below.refl _ _).alloc (Nat.le_refl _) _).alloc (by simp) _
  refine ⟨hb, by rw [hW]; exact at_new _ _ _ (by simp), [f], rfl, rfl, lit_slice1 (h.below hb) ?_⟩
  rw [hW, at_old _ _ _ (by simp)]
  exact at_new _ _ _ rfl
theorem pair_withinS (n : Nat) (f : Fm) : pairB (bndF 13 ((n : Int) + 1) f) (opF 6 [f, opF 8 [bndF 13 (n : Int) f]]) = true := by
  have := pair_within n f
  rw [show ((n + 1 : Nat) : Int) = (n : Int) + 1 by omega] at this
  exact this
theorem pair_duringS (n : Nat) (f : Fm) : pairB (bndF 14 ((n : Int) + 1) f) (opF 5 [f, opF 8 [bndF 14 (n : Int) f]]) = true := by
  have := pair_during n f
  rw [show ((n + 1 : Nat) : Int) = (n : Int) + 1 by omega] at this
  exact this
section
variable {w u' : World} {o : Int} {n : ByteArray} {v b : Int} {A : Option Addr} {k c : Nat} {f : Fm} {o2 : Int} {n2 : ByteArray} {v2 b2 : Int} {A2 : Option Addr} {k2 c2 : Nat} {f2 : Fm}
theorem sl2_new {cur : World} (hb : Below cur.heap.size cur u') {kb : Nat} (h : VF cur o n v b A k c f) (h2 : VF cur o2 n2 v2 b2 A2 k2 c2 f2) (hk : cur.heap[kb]? = some (.cells #[.int .i64 o, .string n, .int .i64 v, .int .i64 b, .slice A k c, .int .i64 o2, .string n2, .int .i64 v2, .int .i64 b2, .slice A2 k2 c2] 24 (0, 0))) : RdA u' AnyD [f, f2] (some ⟨kb, 0, none⟩) 2 := (lit_slice2 h h2 hk).any hb
theorem sl2_newd {cur : World} (hb : Below (World.drew cur).heap.size (World.drew cur) u') {kb : Nat} (h : VF cur o n v b A k c f) (h2 : VF cur o2 n2 v2 b2 A2 k2 c2 f2) (hk : cur.heap[kb]? = some (.cells #[.int .i64 o, .string n, .int .i64 v, .int .i64 b, .slice A k c, .int .i64 o2, .string n2, .int .i64 v2, .int .i64 b2, .slice A2 k2 c2] 24 (0, 0))) : RdA u' AnyD [f, f2] (some ⟨kb, 0, none⟩) 2 := sl2_new (cur := cur) ⟨hb.os, hb.tape, hb.output, hb.size, hb.block⟩ h h2 hk
end
set_option maxRecDepth 100000 in
set_option maxHeartbeats 8000000 in
theorem expansion_any {D E : Dom} (f g : Fm) (v v2 : Value) (x : Int) (w : World) (h : RdF3 w D v f) (h2 : RdF3 w E v2 g) (hx0 : 0 ≤ x) (hx1 : x ≤ 255) (hg : GF w) (hk : GK w) :
    Calls Tryd.prog 5 #[v, v2, .int .u8 x] w fun e w' => e = .returned (.bool true) ∧ Below w.heap.size w w' := by
  obtain ⟨A, c, rfl, ha⟩ := h
  obtain ⟨A2, c2, rfl, ha2⟩ := h2
  have HA := hid (VF.of ha)
  have HA2 := hid (VF.of ha2)
  have HG0 := hid hg
  have HK0 := hid hk
  clear ha ha2 hg hk
  go_enter Tryd.func5, Tryd.ntmps5
  go_upto_region 1 with (fail)
  refine wp_gen fun W hW => ?_
  have HB := hid (show Below w.heap.size w W by rw [hW]; go_grown)
  have HO3 := hid (show OB W w.heap.size f.op f.name f.val f.bound A f.args.length c by
    show W.heap[_]? = _
    rw [hW, at_old _ _ _ (by simp)]; exact at_new _ _ _ rfl)
  have HO4 := hid (show OB W (w.heap.size + 1) g.op g.name g.val g.bound A2 g.args.length c2 by rw [hW]; exact at_new _ _ _ (by simp))
  have HF := hid (HA.out.below HB.out)
  have HH := hid (HA2.out.below HB.out)
  have HG := hid (HG0.out.nx HB.out)
  have HK := hid (HK0.out.nx HB.out)
  clear hW HA HA2 HG0 HK0
  obtain ⟨b3, hb3⟩ : ∃ b3, b3 = w.heap.size := ⟨_, rfl⟩
  obtain ⟨b4, hb4⟩ : ∃ b4, b4 = w.heap.size + 1 := ⟨_, rfl⟩
  rw [← hb4] at HO4 ⊢
  rw [← hb3] at HO3 ⊢
  clear hb3 hb4
  go_upto_region 2 with (go_at_call 6; (with_reducible refine (head_any _ ?_ ?_).mono ?_); (first | exact HG.out | exact HG.out.nx (by go_grown)); (first | exact HK.out | exact HK.out.nx (by go_grown)); rintro e U ⟨rfl, hb⟩; have hbu := bel_of HG.out (by first | exact Below.refl _ _ | go_grown) hb; replace HG := hid (HG.out.nx hbu); replace HK := hid (HK.out.nx hbu); replace HB := hid (belNx HB.out hbu); replace HO3 := hid (HO3.out.below hbu); replace HO4 := hid (HO4.out.below hbu); replace HF := hid (HF.out.below hbu); replace HH := hid (HH.out.below hbu); clear hbu hb)
  obtain ⟨x0, x1, x2, x3, x4, x5⟩ := HO3.out.cells
  obtain ⟨y0, y1, y2, y3, y4, y5⟩ := HO4.out.cells
  by_cases hs : f.size ≤ 60
  rotate_left
  · go_wp2_with (go_at_call 7; (with_reducible refine (small_lit (f := f) 60 60 rfl ?_ false ?_ ?_).mono ?_); decide; exact decide_eq_false hs; (first | exact HF.out | exact HF.out.below (by go_grown)); rintro e U ⟨rfl, hb⟩; have hbu := bel_of HG.out (by first | exact Below.refl _ _ | go_grown) hb; replace HG := hid (HG.out.nx hbu); replace HK := hid (HK.out.nx hbu); replace HB := hid (belNx HB.out hbu); replace HO3 := hid (HO3.out.below hbu); replace HO4 := hid (HO4.out.below hbu); replace HF := hid (HF.out.below hbu); replace HH := hid (HH.out.below hbu); clear hbu hb; clear x0 x1 x2 x3 x4 x5 y0 y1 y2 y3 y4 y5; obtain ⟨x0, x1, x2, x3, x4, x5⟩ := HO3.out.cells; obtain ⟨y0, y1, y2, y3, y4, y5⟩ := HO4.out.cells)
    go_ret
    exact ⟨rfl, HB.out⟩
  by_cases hs2 : g.size ≤ 60
  rotate_left
  · go_wp2_with (first | (go_at_call 7; (with_reducible refine (small_lit (f := f) 60 60 rfl ?_ true ?_ ?_).mono ?_); decide; exact decide_eq_true hs; (first | exact HF.out | exact HF.out.below (by go_grown)); rintro e U ⟨rfl, hb⟩; have hbu := bel_of HG.out (by first | exact Below.refl _ _ | go_grown) hb; replace HG := hid (HG.out.nx hbu); replace HK := hid (HK.out.nx hbu); replace HB := hid (belNx HB.out hbu); replace HO3 := hid (HO3.out.below hbu); replace HO4 := hid (HO4.out.below hbu); replace HF := hid (HF.out.below hbu); replace HH := hid (HH.out.below hbu); clear hbu hb; clear x0 x1 x2 x3 x4 x5 y0 y1 y2 y3 y4 y5; obtain ⟨x0, x1, x2, x3, x4, x5⟩ := HO3.out.cells; obtain ⟨y0, y1, y2, y3, y4, y5⟩ := HO4.out.cells) | (go_at_call 7; (with_reducible refine (small_lit (f := g) 60 60 rfl ?_ false ?_ ?_).mono ?_); decide; exact decide_eq_false hs2; (first | exact HH.out | exact HH.out.below (by go_grown)); rintro e U ⟨rfl, hb⟩; have hbu := bel_of HG.out (by first | exact Below.refl _ _ | go_grown) hb; replace HG := hid (HG.out.nx hbu); replace HK := hid (HK.out.nx hbu); replace HB := hid (belNx HB.out hbu); replace HO3 := hid (HO3.out.below hbu); replace HO4 := hid (HO4.out.below hbu); replace HF := hid (HF.out.below hbu); replace HH := hid (HH.out.below hbu); clear hbu hb; clear x0 x1 x2 x3 x4 x5 y0 y1 y2 y3 y4 y5; obtain ⟨x0, x1, x2, x3, x4, x5⟩ := HO3.out.cells; obtain ⟨y0, y1, y2, y3, y4, y5⟩ := HO4.out.cells))
    go_ret
    exact ⟨rfl, HB.out⟩
  go_upto_region 4 with (first | (go_at_call 7; (with_reducible refine (small_lit (f := f) 60 60 rfl ?_ true ?_ ?_).mono ?_); decide; exact decide_eq_true hs; (first | exact HF.out | exact HF.out.below (by go_grown)); rintro e U ⟨rfl, hb⟩; have hbu := bel_of HG.out (by first | exact Below.refl _ _ | go_grown) hb; replace HG := hid (HG.out.nx hbu); replace HK := hid (HK.out.nx hbu); replace HB := hid (belNx HB.out hbu); replace HO3 := hid (HO3.out.below hbu); replace HO4 := hid (HO4.out.below hbu); replace HF := hid (HF.out.below hbu); replace HH := hid (HH.out.below hbu); clear hbu hb; clear x0 x1 x2 x3 x4 x5 y0 y1 y2 y3 y4 y5; obtain ⟨x0, x1, x2, x3, x4, x5⟩ := HO3.out.cells; obtain ⟨y0, y1, y2, y3, y4, y5⟩ := HO4.out.cells) | (go_at_call 7; (with_reducible refine (small_lit (f := g) 60 60 rfl ?_ true ?_ ?_).mono ?_); decide; exact decide_eq_true hs2; (first | exact HH.out | exact HH.out.below (by go_grown)); rintro e U ⟨rfl, hb⟩; have hbu := bel_of HG.out (by first | exact Below.refl _ _ | go_grown) hb; replace HG := hid (HG.out.nx hbu); replace HK := hid (HK.out.nx hbu); replace HB := hid (belNx HB.out hbu); replace HO3 := hid (HO3.out.below hbu); replace HO4 := hid (HO4.out.below hbu); replace HF := hid (HF.out.below hbu); replace HH := hid (HH.out.below hbu); clear hbu hb; clear x0 x1 x2 x3 x4 x5 y0 y1 y2 y3 y4 y5; obtain ⟨x0, x1, x2, x3, x4, x5⟩ := HO3.out.cells; obtain ⟨y0, y1, y2, y3, y4, y5⟩ := HO4.out.cells))
  clear hs hs2
  clear x0 x1 x2 x3 x4 x5 y0 y1 y2 y3 y4 y5
  rename World => W
  have wx : IntKind.i64.wrap x = x := IntWalk.i64_in _ (by omega)
  obtain ⟨n, hn, hn8⟩ : ∃ n : Nat, x.tmod 9 = (n : Int) ∧ n ≤ 8 := ⟨(x % 9).toNat, by rw [Int.tmod_eq_emod_of_nonneg hx0]; omega, by omega⟩
  go_upto_region 5 with (fail)
  have wn : IntKind.i64.wrap ((n : Int) + 1) = (n : Int) + 1 := IntWalk.i64_in _ (by omega)
  obtain ⟨x0, x1, x2, x3, x4, x5⟩ := HO3.out.cells
  go_upto_region 6 with (fail)
  refine wp_gen fun W' hW => ?_
  obtain ⟨hbu, ho, hv⟩ := mk_bnd 13 ((n : Int)) HF.out hW
  obtain ⟨b9, hbn⟩ : ∃ b9, b9 = W.heap.size + 1 := ⟨_, rfl⟩
  rw [← hbn] at ho ⊢
  obtain ⟨s9, hsn⟩ : ∃ s9, s9 = W.heap.size := ⟨_, rfl⟩
  rw [← hsn] at ho hv ⊢
  clear x0 x1 x2 x3 x4 x5
  replace HG := hid (HG.out.nx hbu)
  replace HK := hid (HK.out.nx hbu)
  replace HB := hid (belNx HB.out hbu)
  replace HO3 := hid (HO3.out.below hbu)
  replace HO4 := hid (HO4.out.below hbu)
  replace HF := hid (HF.out.below hbu)
  replace HH := hid (HH.out.below hbu)
  have HO9 := hid ho
  have HF9 := hid hv
  clear hW hbn hsn hbu ho hv
  rename World => W
  obtain ⟨x0, x1, x2, x3, x4, x5⟩ := HO3.out.cells
  go_upto_region 7 with (fail)
  refine wp_gen fun W' hW => ?_
  obtain ⟨hbu, ho, hv⟩ := mk_bnd 14 ((n : Int)) HF.out hW
  obtain ⟨b10, hbn⟩ : ∃ b10, b10 = W.heap.size + 1 := ⟨_, rfl⟩
  rw [← hbn] at ho ⊢
  obtain ⟨s10, hsn⟩ : ∃ s10, s10 = W.heap.size := ⟨_, rfl⟩
  rw [← hsn] at ho hv ⊢
  clear x0 x1 x2 x3 x4 x5
  replace HG := hid (HG.out.nx hbu)
  replace HK := hid (HK.out.nx hbu)
  replace HB := hid (belNx HB.out hbu)
  replace HO3 := hid (HO3.out.below hbu)
  replace HO4 := hid (HO4.out.below hbu)
  replace HF := hid (HF.out.below hbu)
  replace HH := hid (HH.out.below hbu)
  replace HO9 := hid (HO9.out.below hbu)
  replace HF9 := hid (HF9.out.below hbu)
  have HO10 := hid ho
  have HF10 := hid hv
  clear hW hbn hsn hbu ho hv
  rename World => W
  obtain ⟨x0, x1, x2, x3, x4, x5⟩ := HO3.out.cells
  go_upto_region 8 with (fail)
  refine wp_gen fun W' hW => ?_
  obtain ⟨hbu, ho, hv⟩ := mk_bnd 13 ((n : Int) + 1) HF.out hW
  obtain ⟨b11, hbn⟩ : ∃ b11, b11 = W.heap.size + 1 := ⟨_, rfl⟩
  rw [← hbn] at ho ⊢
  obtain ⟨s11, hsn⟩ : ∃ s11, s11 = W.heap.size := ⟨_, rfl⟩
  rw [← hsn] at ho hv ⊢
  clear x0 x1 x2 x3 x4 x5
  replace HG := hid (HG.out.nx hbu)
  replace HK := hid (HK.out.nx hbu)
  replace HB := hid (belNx HB.out hbu)
  replace HO3 := hid (HO3.out.below hbu)
  replace HO4 := hid (HO4.out.below hbu)
  replace HF := hid (HF.out.below hbu)
  replace HH := hid (HH.out.below hbu)
  replace HO9 := hid (HO9.out.below hbu)
  replace HF9 := hid (HF9.out.below hbu)
  replace HO10 := hid (HO10.out.below hbu)
  replace HF10 := hid (HF10.out.below hbu)
  have HO11 := hid ho
  have HF11 := hid hv
  clear hW hbn hsn hbu ho hv
  rename World => W
  obtain ⟨x0, x1, x2, x3, x4, x5⟩ := HO3.out.cells
  go_upto_region 9 with (fail)
  refine wp_gen fun W' hW => ?_
  obtain ⟨hbu, ho, hv⟩ := mk_bnd 14 ((n : Int) + 1) HF.out hW
  obtain ⟨b12, hbn⟩ : ∃ b12, b12 = W.heap.size + 1 := ⟨_, rfl⟩
  rw [← hbn] at ho ⊢
  obtain ⟨s12, hsn⟩ : ∃ s12, s12 = W.heap.size := ⟨_, rfl⟩
  rw [← hsn] at ho hv ⊢
  clear x0 x1 x2 x3 x4 x5
  replace HG := hid (HG.out.nx hbu)
  replace HK := hid (HK.out.nx hbu)
  replace HB := hid (belNx HB.out hbu)
  replace HO3 := hid (HO3.out.below hbu)
  replace HO4 := hid (HO4.out.below hbu)
  replace HF := hid (HF.out.below hbu)
  replace HH := hid (HH.out.below hbu)
  replace HO9 := hid (HO9.out.below hbu)
  replace HF9 := hid (HF9.out.below hbu)
  replace HO10 := hid (HO10.out.below hbu)
  replace HF10 := hid (HF10.out.below hbu)
  replace HO11 := hid (HO11.out.below hbu)
  replace HF11 := hid (HF11.out.below hbu)
  have HO12 := hid ho
  have HF12 := hid hv
  clear hW hbn hsn hbu ho hv
  rename World => W
  rename_i K hK
  refine wp_tail K (13 :: List.range' 51 14) (fun us W' => us 13 = .bool true ∧ Below W.heap.size W W') ?_ ?_
  rotate_left
  · --<<
    intro HTAIL
    have HTL := hid HTAIL
    clear HTAIL hK
    have HW := hid (Below.refl W.heap.size W)
    obtain ⟨x0, x1, x2, x3, x4, x5⟩ := HO11.out.cells
    obtain ⟨y0, y1, y2, y3, y4, y5⟩ := HO3.out.cells
    obtain ⟨z0, z1, z2, z3, z4, z5⟩ := HO9.out.cells
    obtain ⟨s0, s1, s2, s3, s4, s5⟩ := HO12.out.cells
    obtain ⟨t0, t1, t2, t3, t4, t5⟩ := HO10.out.cells
    go_region_held3 (fun W' : World => W'.cell? ⟨b11, 0, none⟩ = some (.int .i64 (13)) ∧ W'.cell? ⟨b11, 1, none⟩ = some (.string ⟨#[]⟩) ∧ W'.cell? ⟨b11, 2, none⟩ = some (.int .i64 (0)) ∧ W'.cell? ⟨b11, 3, none⟩ = some (.int .i64 ((n : Int) + 1)) ∧ W'.cell? ⟨b11, 4, none⟩ = some (.slice (some ⟨s11, 0, none⟩) 1 1) ∧ W'.cell? ⟨b3, 0, none⟩ = some (.int .i64 (f.op)) ∧ W'.cell? ⟨b3, 1, none⟩ = some (.string f.name) ∧ W'.cell? ⟨b3, 2, none⟩ = some (.int .i64 (f.val)) ∧ W'.cell? ⟨b3, 3, none⟩ = some (.int .i64 (f.bound)) ∧ W'.cell? ⟨b3, 4, none⟩ = some (.slice A f.args.length c) ∧ W'.cell? ⟨b9, 0, none⟩ = some (.int .i64 (13)) ∧ W'.cell? ⟨b9, 1, none⟩ = some (.string ⟨#[]⟩) ∧ W'.cell? ⟨b9, 2, none⟩ = some (.int .i64 (0)) ∧ W'.cell? ⟨b9, 3, none⟩ = some (.int .i64 ((n : Int))) ∧ W'.cell? ⟨b9, 4, none⟩ = some (.slice (some ⟨s9, 0, none⟩) 1 1) ∧ W'.cell? ⟨b12, 0, none⟩ = some (.int .i64 (14)) ∧ W'.cell? ⟨b12, 1, none⟩ = some (.string ⟨#[]⟩) ∧ W'.cell? ⟨b12, 2, none⟩ = some (.int .i64 (0)) ∧ W'.cell? ⟨b12, 3, none⟩ = some (.int .i64 ((n : Int) + 1)) ∧ W'.cell? ⟨b12, 4, none⟩ = some (.slice (some ⟨s12, 0, none⟩) 1 1) ∧ W'.cell? ⟨b10, 0, none⟩ = some (.int .i64 (14)) ∧ W'.cell? ⟨b10, 1, none⟩ = some (.string ⟨#[]⟩) ∧ W'.cell? ⟨b10, 2, none⟩ = some (.int .i64 (0)) ∧ W'.cell? ⟨b10, 3, none⟩ = some (.int .i64 ((n : Int))) ∧ W'.cell? ⟨b10, 4, none⟩ = some (.slice (some ⟨s10, 0, none⟩) 1 1))
      (first | (with_reducible exact ⟨(HO11.out).cells.1, (HO11.out).cells.2.1, (HO11.out).cells.2.2.1, (HO11.out).cells.2.2.2.1, (HO11.out).cells.2.2.2.2.1, (HO3.out).cells.1, (HO3.out).cells.2.1, (HO3.out).cells.2.2.1, (HO3.out).cells.2.2.2.1, (HO3.out).cells.2.2.2.2.1, (HO9.out).cells.1, (HO9.out).cells.2.1, (HO9.out).cells.2.2.1, (HO9.out).cells.2.2.2.1, (HO9.out).cells.2.2.2.2.1, (HO12.out).cells.1, (HO12.out).cells.2.1, (HO12.out).cells.2.2.1, (HO12.out).cells.2.2.2.1, (HO12.out).cells.2.2.2.2.1, (HO10.out).cells.1, (HO10.out).cells.2.1, (HO10.out).cells.2.2.1, (HO10.out).cells.2.2.2.1, (HO10.out).cells.2.2.2.2.1⟩) | (go_keep; done))
      (first | (go_at_call 17; (with_reducible refine (one_lit 8 (opF 8 [bndF 13 (n : Int) f]) rfl ?_).mono ?_); (first | exact HF9.out | exact HF9.out.below (by go_grown)); rintro e U ⟨A', c', rfl, hv, hb⟩; have hbu := bel_of HG.out (by first | exact Below.refl _ _ | go_grown) hb; replace HG := hid (HG.out.nx hbu); replace HK := hid (HK.out.nx hbu); replace HB := hid (belNx HB.out hbu); replace HO3 := hid (HO3.out.below hbu); replace HO4 := hid (HO4.out.below hbu); replace HF := hid (HF.out.below hbu); replace HH := hid (HH.out.below hbu); replace HO9 := hid (HO9.out.below hbu); replace HF9 := hid (HF9.out.below hbu); replace HO10 := hid (HO10.out.below hbu); replace HF10 := hid (HF10.out.below hbu); replace HO11 := hid (HO11.out.below hbu); replace HF11 := hid (HF11.out.below hbu); replace HO12 := hid (HO12.out.below hbu); replace HF12 := hid (HF12.out.below hbu); replace HW := hid (belNx HW.out hbu); (try (replace HN1 := hid (HN1.out.below hbu))); (try (replace HN2 := hid (HN2.out.below hbu))); (try (replace HN3 := hid (HN3.out.below hbu))); (try (replace HN4 := hid (HN4.out.below hbu))); clear hbu hb; have HN1 := hid hv; clear hv) | (go_at_call 16; (with_reducible refine (two_lit 6 (opF 6 [f, opF 8 [bndF 13 (n : Int) f]]) rfl ?_ ?_).mono ?_); (first | exact HF.out | exact HF.out.below (by go_grown)); (first | exact HN1.out | exact HN1.out.below (by go_grown)); rintro e U ⟨A', c', rfl, hv, hb⟩; have hbu := bel_of HG.out (by first | exact Below.refl _ _ | go_grown) hb; replace HG := hid (HG.out.nx hbu); replace HK := hid (HK.out.nx hbu); replace HB := hid (belNx HB.out hbu); replace HO3 := hid (HO3.out.below hbu); replace HO4 := hid (HO4.out.below hbu); replace HF := hid (HF.out.below hbu); replace HH := hid (HH.out.below hbu); replace HO9 := hid (HO9.out.below hbu); replace HF9 := hid (HF9.out.below hbu); replace HO10 := hid (HO10.out.below hbu); replace HF10 := hid (HF10.out.below hbu); replace HO11 := hid (HO11.out.below hbu); replace HF11 := hid (HF11.out.below hbu); replace HO12 := hid (HO12.out.below hbu); replace HF12 := hid (HF12.out.below hbu); replace HW := hid (belNx HW.out hbu); (try (replace HN1 := hid (HN1.out.below hbu))); (try (replace HN2 := hid (HN2.out.below hbu))); (try (replace HN3 := hid (HN3.out.below hbu))); (try (replace HN4 := hid (HN4.out.below hbu))); clear hbu hb; have HN2 := hid hv; clear hv) | (go_at_call 15; (with_reducible refine (pair_lit (pair_withinS n f) ?_ ?_ ?_ ?_).mono ?_); (first | exact HF11.out | exact HF11.out.below (by go_grown)); (first | exact HN2.out | exact HN2.out.below (by go_grown)); (first | exact HG.out | exact HG.out.nx (by go_grown)); (first | exact HK.out | exact HK.out.nx (by go_grown)); rintro e U ⟨rfl, hb⟩; have hbu := bel_of HG.out (by first | exact Below.refl _ _ | go_grown) hb; replace HG := hid (HG.out.nx hbu); replace HK := hid (HK.out.nx hbu); replace HB := hid (belNx HB.out hbu); replace HO3 := hid (HO3.out.below hbu); replace HO4 := hid (HO4.out.below hbu); replace HF := hid (HF.out.below hbu); replace HH := hid (HH.out.below hbu); replace HO9 := hid (HO9.out.below hbu); replace HF9 := hid (HF9.out.below hbu); replace HO10 := hid (HO10.out.below hbu); replace HF10 := hid (HF10.out.below hbu); replace HO11 := hid (HO11.out.below hbu); replace HF11 := hid (HF11.out.below hbu); replace HO12 := hid (HO12.out.below hbu); replace HF12 := hid (HF12.out.below hbu); replace HW := hid (belNx HW.out hbu); (try (replace HN1 := hid (HN1.out.below hbu))); (try (replace HN2 := hid (HN2.out.below hbu))); (try (replace HN3 := hid (HN3.out.below hbu))); (try (replace HN4 := hid (HN4.out.below hbu))); clear hbu hb) | (go_at_call 17; (with_reducible refine (one_lit 8 (opF 8 [bndF 14 (n : Int) f]) rfl ?_).mono ?_); (first | exact HF10.out | exact HF10.out.below (by go_grown)); rintro e U ⟨A', c', rfl, hv, hb⟩; have hbu := bel_of HG.out (by first | exact Below.refl _ _ | go_grown) hb; replace HG := hid (HG.out.nx hbu); replace HK := hid (HK.out.nx hbu); replace HB := hid (belNx HB.out hbu); replace HO3 := hid (HO3.out.below hbu); replace HO4 := hid (HO4.out.below hbu); replace HF := hid (HF.out.below hbu); replace HH := hid (HH.out.below hbu); replace HO9 := hid (HO9.out.below hbu); replace HF9 := hid (HF9.out.below hbu); replace HO10 := hid (HO10.out.below hbu); replace HF10 := hid (HF10.out.below hbu); replace HO11 := hid (HO11.out.below hbu); replace HF11 := hid (HF11.out.below hbu); replace HO12 := hid (HO12.out.below hbu); replace HF12 := hid (HF12.out.below hbu); replace HW := hid (belNx HW.out hbu); (try (replace HN1 := hid (HN1.out.below hbu))); (try (replace HN2 := hid (HN2.out.below hbu))); (try (replace HN3 := hid (HN3.out.below hbu))); (try (replace HN4 := hid (HN4.out.below hbu))); clear hbu hb; have HN3 := hid hv; clear hv) | (go_at_call 16; (with_reducible refine (two_lit 5 (opF 5 [f, opF 8 [bndF 14 (n : Int) f]]) rfl ?_ ?_).mono ?_); (first | exact HF.out | exact HF.out.below (by go_grown)); (first | exact HN3.out | exact HN3.out.below (by go_grown)); rintro e U ⟨A', c', rfl, hv, hb⟩; have hbu := bel_of HG.out (by first | exact Below.refl _ _ | go_grown) hb; replace HG := hid (HG.out.nx hbu); replace HK := hid (HK.out.nx hbu); replace HB := hid (belNx HB.out hbu); replace HO3 := hid (HO3.out.below hbu); replace HO4 := hid (HO4.out.below hbu); replace HF := hid (HF.out.below hbu); replace HH := hid (HH.out.below hbu); replace HO9 := hid (HO9.out.below hbu); replace HF9 := hid (HF9.out.below hbu); replace HO10 := hid (HO10.out.below hbu); replace HF10 := hid (HF10.out.below hbu); replace HO11 := hid (HO11.out.below hbu); replace HF11 := hid (HF11.out.below hbu); replace HO12 := hid (HO12.out.below hbu); replace HF12 := hid (HF12.out.below hbu); replace HW := hid (belNx HW.out hbu); (try (replace HN1 := hid (HN1.out.below hbu))); (try (replace HN2 := hid (HN2.out.below hbu))); (try (replace HN3 := hid (HN3.out.below hbu))); (try (replace HN4 := hid (HN4.out.below hbu))); clear hbu hb; have HN4 := hid hv; clear hv) | (go_at_call 15; (with_reducible refine (pair_lit (pair_duringS n f) ?_ ?_ ?_ ?_).mono ?_); (first | exact HF12.out | exact HF12.out.below (by go_grown)); (first | exact HN4.out | exact HN4.out.below (by go_grown)); (first | exact HG.out | exact HG.out.nx (by go_grown)); (first | exact HK.out | exact HK.out.nx (by go_grown)); rintro e U ⟨rfl, hb⟩; have hbu := bel_of HG.out (by first | exact Below.refl _ _ | go_grown) hb; replace HG := hid (HG.out.nx hbu); replace HK := hid (HK.out.nx hbu); replace HB := hid (belNx HB.out hbu); replace HO3 := hid (HO3.out.below hbu); replace HO4 := hid (HO4.out.below hbu); replace HF := hid (HF.out.below hbu); replace HH := hid (HH.out.below hbu); replace HO9 := hid (HO9.out.below hbu); replace HF9 := hid (HF9.out.below hbu); replace HO10 := hid (HO10.out.below hbu); replace HF10 := hid (HF10.out.below hbu); replace HO11 := hid (HO11.out.below hbu); replace HF11 := hid (HF11.out.below hbu); replace HO12 := hid (HO12.out.below hbu); replace HF12 := hid (HF12.out.below hbu); replace HW := hid (belNx HW.out hbu); (try (replace HN1 := hid (HN1.out.below hbu))); (try (replace HN2 := hid (HN2.out.below hbu))); (try (replace HN3 := hid (HN3.out.below hbu))); (try (replace HN4 := hid (HN4.out.below hbu))); clear hbu hb))
    all_goals
      refine tail_close HTL.out ?_ ?_
      · first
          | exact ⟨rfl, (by first | exact HW.out | exact belNx HW.out (by go_grown))⟩
      · kernel_rfl
    -->>
  rintro us W ⟨hu, hbu⟩
  apply hK
  simp only [putAll, List.range', List.range'_succ, Act.put, List.setIfInBounds_toArray, List.set_cons_zero, List.set_cons_succ]
  rw [hu]
  replace HG := hid (HG.out.nx hbu)
  replace HK := hid (HK.out.nx hbu)
  replace HB := hid (belNx HB.out hbu)
  replace HO3 := hid (HO3.out.below hbu)
  replace HO4 := hid (HO4.out.below hbu)
  replace HF := hid (HF.out.below hbu)
  replace HH := hid (HH.out.below hbu)
  replace HO9 := hid (HO9.out.below hbu)
  replace HF9 := hid (HF9.out.below hbu)
  replace HO10 := hid (HO10.out.below hbu)
  replace HF10 := hid (HF10.out.below hbu)
  replace HO11 := hid (HO11.out.below hbu)
  replace HF11 := hid (HF11.out.below hbu)
  replace HO12 := hid (HO12.out.below hbu)
  replace HF12 := hid (HF12.out.below hbu)
  clear hK hu hbu
  clear HO9 HO10 HO11 HO12 HF9 HF10 HF11 HF12
  go_upto_region 10 with (fail)
  obtain ⟨x0, x1, x2, x3, x4, x5⟩ := HO3.out.cells
  go_upto_region 11 with (go_at_call 17; (with_reducible refine (one_lit 4 (opF 4 [f]) rfl ?_).mono ?_); (first | exact HF.out | exact HF.out.below (by go_grown)); rintro e U ⟨A14, c14, rfl, hv, hb⟩; have hbu := bel_of HG.out (by first | exact Below.refl _ _ | go_grown) hb; replace HG := hid (HG.out.nx hbu); replace HK := hid (HK.out.nx hbu); replace HB := hid (belNx HB.out hbu); replace HO3 := hid (HO3.out.below hbu); replace HO4 := hid (HO4.out.below hbu); replace HF := hid (HF.out.below hbu); replace HH := hid (HH.out.below hbu); clear hbu hb; have HF14 := hid hv; clear hv)
  clear x0 x1 x2 x3 x4 x5
  refine wp_gen fun W hW => ?_
  obtain ⟨b14, hbn⟩ : ∃ b14, b14 = U.heap.size := ⟨_, rfl⟩
  rw [← hbn]
  have hb : Below U.heap.size U W := by rw [hW]; go_grown
  have HO14 := hid (show OB W b14 4 ⟨#[]⟩ 0 0 A14 1 c14 by rw [hW]; exact at_new _ _ _ hbn)
  have hbu := hb
  replace HG := hid (HG.out.nx hbu)
  replace HK := hid (HK.out.nx hbu)
  replace HB := hid (belNx HB.out hbu)
  replace HO3 := hid (HO3.out.below hbu)
  replace HO4 := hid (HO4.out.below hbu)
  replace HF := hid (HF.out.below hbu)
  replace HH := hid (HH.out.below hbu)
  replace HF14 := hid (HF14.out.below hbu)
  clear hW hbn hb hbu
  obtain ⟨x0, x1, x2, x3, x4, x5⟩ := HO4.out.cells
  go_upto_region 12 with (go_at_call 17; (with_reducible refine (one_lit 4 (opF 4 [g]) rfl ?_).mono ?_); (first | exact HH.out | exact HH.out.below (by go_grown)); rintro e U ⟨A15, c15, rfl, hv, hb⟩; have hbu := bel_of HG.out (by first | exact Below.refl _ _ | go_grown) hb; replace HG := hid (HG.out.nx hbu); replace HK := hid (HK.out.nx hbu); replace HB := hid (belNx HB.out hbu); replace HO3 := hid (HO3.out.below hbu); replace HO4 := hid (HO4.out.below hbu); replace HF := hid (HF.out.below hbu); replace HH := hid (HH.out.below hbu); replace HF14 := hid (HF14.out.below hbu); replace HO14 := hid (HO14.out.below hbu); clear hbu hb; have HF15 := hid hv; clear hv)
  clear x0 x1 x2 x3 x4 x5
  refine wp_gen fun W hW => ?_
  obtain ⟨b15, hbn⟩ : ∃ b15, b15 = U.heap.size := ⟨_, rfl⟩
  rw [← hbn]
  have hb : Below U.heap.size U W := by rw [hW]; go_grown
  have HO15 := hid (show OB W b15 4 ⟨#[]⟩ 0 0 A15 1 c15 by rw [hW]; exact at_new _ _ _ hbn)
  have hbu := hb
  replace HG := hid (HG.out.nx hbu)
  replace HK := hid (HK.out.nx hbu)
  replace HB := hid (belNx HB.out hbu)
  replace HO3 := hid (HO3.out.below hbu)
  replace HO4 := hid (HO4.out.below hbu)
  replace HF := hid (HF.out.below hbu)
  replace HH := hid (HH.out.below hbu)
  replace HF14 := hid (HF14.out.below hbu)
  replace HO14 := hid (HO14.out.below hbu)
  replace HF15 := hid (HF15.out.below hbu)
  clear hW hbn hb hbu
  rename_i K hK
  refine wp_tail K (16 :: List.range' 69 23) (fun us W' => us 16 = .bool true ∧ Below W.heap.size W W') ?_ ?_
  rotate_left
  · --<<
    intro HTAIL
    have HTL := hid HTAIL
    clear HTAIL hK
    have HW := hid (Below.refl W.heap.size W)
    obtain ⟨x0, x1, x2, x3, x4, x5⟩ := HO3.out.cells
    obtain ⟨y0, y1, y2, y3, y4, y5⟩ := HO4.out.cells
    obtain ⟨z0, z1, z2, z3, z4, z5⟩ := HO14.out.cells
    go_region_held3 (fun W' : World => W'.cell? ⟨b3, 0, none⟩ = some (.int .i64 (f.op)) ∧ W'.cell? ⟨b3, 1, none⟩ = some (.string f.name) ∧ W'.cell? ⟨b3, 2, none⟩ = some (.int .i64 (f.val)) ∧ W'.cell? ⟨b3, 3, none⟩ = some (.int .i64 (f.bound)) ∧ W'.cell? ⟨b3, 4, none⟩ = some (.slice A f.args.length c) ∧ W'.cell? ⟨b4, 0, none⟩ = some (.int .i64 (g.op)) ∧ W'.cell? ⟨b4, 1, none⟩ = some (.string g.name) ∧ W'.cell? ⟨b4, 2, none⟩ = some (.int .i64 (g.val)) ∧ W'.cell? ⟨b4, 3, none⟩ = some (.int .i64 (g.bound)) ∧ W'.cell? ⟨b4, 4, none⟩ = some (.slice A2 g.args.length c2) ∧ W'.cell? ⟨b14, 0, none⟩ = some (.int .i64 (4)) ∧ W'.cell? ⟨b14, 1, none⟩ = some (.string ⟨#[]⟩) ∧ W'.cell? ⟨b14, 2, none⟩ = some (.int .i64 (0)) ∧ W'.cell? ⟨b14, 3, none⟩ = some (.int .i64 (0)) ∧ W'.cell? ⟨b14, 4, none⟩ = some (.slice A14 1 c14))
      (first | (with_reducible exact ⟨(HO3.out).cells.1, (HO3.out).cells.2.1, (HO3.out).cells.2.2.1, (HO3.out).cells.2.2.2.1, (HO3.out).cells.2.2.2.2.1, (HO4.out).cells.1, (HO4.out).cells.2.1, (HO4.out).cells.2.2.1, (HO4.out).cells.2.2.2.1, (HO4.out).cells.2.2.2.2.1, (HO14.out).cells.1, (HO14.out).cells.2.1, (HO14.out).cells.2.2.1, (HO14.out).cells.2.2.2.1, (HO14.out).cells.2.2.2.2.1⟩) | (go_keep; done))
      (first | (go_at_call 16; (with_reducible refine (two_lit 7 (opF 7 [f, g]) rfl ?_ ?_).mono ?_); (first | exact HF.out | exact HF.out.below (by go_grown)); (first | exact HH.out | exact HH.out.below (by go_grown)); rintro e U ⟨A', c', rfl, hv, hb⟩; have hbu := bel_of HG.out (by first | exact Below.refl _ _ | go_grown) hb; replace HG := hid (HG.out.nx hbu); replace HK := hid (HK.out.nx hbu); replace HB := hid (belNx HB.out hbu); replace HO3 := hid (HO3.out.below hbu); replace HO4 := hid (HO4.out.below hbu); replace HF := hid (HF.out.below hbu); replace HH := hid (HH.out.below hbu); replace HF14 := hid (HF14.out.below hbu); replace HO14 := hid (HO14.out.below hbu); replace HF15 := hid (HF15.out.below hbu); replace HO15 := hid (HO15.out.below hbu); replace HW := hid (belNx HW.out hbu); (try (replace HN1 := hid (HN1.out.below hbu))); (try (replace HN2 := hid (HN2.out.below hbu))); (try (replace HN3 := hid (HN3.out.below hbu))); (try (replace HN4 := hid (HN4.out.below hbu))); (try (replace HN5 := hid (HN5.out.below hbu))); (try (replace HN6 := hid (HN6.out.below hbu))); (try (replace HN7 := hid (HN7.out.below hbu))); (try (replace HN8 := hid (HN8.out.below hbu))); clear hbu hb; have HN1 := hid hv; clear hv) | (go_at_call 16; (with_reducible refine (two_lit 6 (opF 6 [opF 4 [f], g]) rfl ?_ ?_).mono ?_); (first | exact HF14.out | exact HF14.out.below (by go_grown)); (first | exact HH.out | exact HH.out.below (by go_grown)); rintro e U ⟨A', c', rfl, hv, hb⟩; have hbu := bel_of HG.out (by first | exact Below.refl _ _ | go_grown) hb; replace HG := hid (HG.out.nx hbu); replace HK := hid (HK.out.nx hbu); replace HB := hid (belNx HB.out hbu); replace HO3 := hid (HO3.out.below hbu); replace HO4 := hid (HO4.out.below hbu); replace HF := hid (HF.out.below hbu); replace HH := hid (HH.out.below hbu); replace HF14 := hid (HF14.out.below hbu); replace HO14 := hid (HO14.out.below hbu); replace HF15 := hid (HF15.out.below hbu); replace HO15 := hid (HO15.out.below hbu); replace HW := hid (belNx HW.out hbu); (try (replace HN1 := hid (HN1.out.below hbu))); (try (replace HN2 := hid (HN2.out.below hbu))); (try (replace HN3 := hid (HN3.out.below hbu))); (try (replace HN4 := hid (HN4.out.below hbu))); (try (replace HN5 := hid (HN5.out.below hbu))); (try (replace HN6 := hid (HN6.out.below hbu))); (try (replace HN7 := hid (HN7.out.below hbu))); (try (replace HN8 := hid (HN8.out.below hbu))); clear hbu hb; have HN2 := hid hv; clear hv) | (go_at_call 15; (with_reducible refine (pair_lit (pair_imp f g) ?_ ?_ ?_ ?_).mono ?_); (first | exact HN1.out | exact HN1.out.below (by go_grown)); (first | exact HN2.out | exact HN2.out.below (by go_grown)); (first | exact HG.out | exact HG.out.nx (by go_grown)); (first | exact HK.out | exact HK.out.nx (by go_grown)); rintro e U ⟨rfl, hb⟩; have hbu := bel_of HG.out (by first | exact Below.refl _ _ | go_grown) hb; replace HG := hid (HG.out.nx hbu); replace HK := hid (HK.out.nx hbu); replace HB := hid (belNx HB.out hbu); replace HO3 := hid (HO3.out.below hbu); replace HO4 := hid (HO4.out.below hbu); replace HF := hid (HF.out.below hbu); replace HH := hid (HH.out.below hbu); replace HF14 := hid (HF14.out.below hbu); replace HO14 := hid (HO14.out.below hbu); replace HF15 := hid (HF15.out.below hbu); replace HO15 := hid (HO15.out.below hbu); replace HW := hid (belNx HW.out hbu); (try (replace HN1 := hid (HN1.out.below hbu))); (try (replace HN2 := hid (HN2.out.below hbu))); (try (replace HN3 := hid (HN3.out.below hbu))); (try (replace HN4 := hid (HN4.out.below hbu))); (try (replace HN5 := hid (HN5.out.below hbu))); (try (replace HN6 := hid (HN6.out.below hbu))); (try (replace HN7 := hid (HN7.out.below hbu))); (try (replace HN8 := hid (HN8.out.below hbu))); clear hbu hb) | (go_at_call 17; (with_reducible refine (one_lit 12 (opF 12 [f]) rfl ?_).mono ?_); (first | exact HF.out | exact HF.out.below (by go_grown)); rintro e U ⟨A', c', rfl, hv, hb⟩; have hbu := bel_of HG.out (by first | exact Below.refl _ _ | go_grown) hb; replace HG := hid (HG.out.nx hbu); replace HK := hid (HK.out.nx hbu); replace HB := hid (belNx HB.out hbu); replace HO3 := hid (HO3.out.below hbu); replace HO4 := hid (HO4.out.below hbu); replace HF := hid (HF.out.below hbu); replace HH := hid (HH.out.below hbu); replace HF14 := hid (HF14.out.below hbu); replace HO14 := hid (HO14.out.below hbu); replace HF15 := hid (HF15.out.below hbu); replace HO15 := hid (HO15.out.below hbu); replace HW := hid (belNx HW.out hbu); (try (replace HN1 := hid (HN1.out.below hbu))); (try (replace HN2 := hid (HN2.out.below hbu))); (try (replace HN3 := hid (HN3.out.below hbu))); (try (replace HN4 := hid (HN4.out.below hbu))); (try (replace HN5 := hid (HN5.out.below hbu))); (try (replace HN6 := hid (HN6.out.below hbu))); (try (replace HN7 := hid (HN7.out.below hbu))); (try (replace HN8 := hid (HN8.out.below hbu))); clear hbu hb; have HN3 := hid hv; clear hv) | (go_at_call 17; (with_reducible refine (one_lit 4 (opF 4 [opF 12 [f]]) rfl ?_).mono ?_); (first | exact HN3.out | exact HN3.out.below (by go_grown)); rintro e U ⟨A', c', rfl, hv, hb⟩; have hbu := bel_of HG.out (by first | exact Below.refl _ _ | go_grown) hb; replace HG := hid (HG.out.nx hbu); replace HK := hid (HK.out.nx hbu); replace HB := hid (belNx HB.out hbu); replace HO3 := hid (HO3.out.below hbu); replace HO4 := hid (HO4.out.below hbu); replace HF := hid (HF.out.below hbu); replace HH := hid (HH.out.below hbu); replace HF14 := hid (HF14.out.below hbu); replace HO14 := hid (HO14.out.below hbu); replace HF15 := hid (HF15.out.below hbu); replace HO15 := hid (HO15.out.below hbu); replace HW := hid (belNx HW.out hbu); (try (replace HN1 := hid (HN1.out.below hbu))); (try (replace HN2 := hid (HN2.out.below hbu))); (try (replace HN3 := hid (HN3.out.below hbu))); (try (replace HN4 := hid (HN4.out.below hbu))); (try (replace HN5 := hid (HN5.out.below hbu))); (try (replace HN6 := hid (HN6.out.below hbu))); (try (replace HN7 := hid (HN7.out.below hbu))); (try (replace HN8 := hid (HN8.out.below hbu))); clear hbu hb; have HN4 := hid hv; clear hv) | (go_at_call 17; (with_reducible refine (one_lit 11 (opF 11 [opF 4 [f]]) rfl ?_).mono ?_); (first | exact HF14.out | exact HF14.out.below (by go_grown)); rintro e U ⟨A', c', rfl, hv, hb⟩; have hbu := bel_of HG.out (by first | exact Below.refl _ _ | go_grown) hb; replace HG := hid (HG.out.nx hbu); replace HK := hid (HK.out.nx hbu); replace HB := hid (belNx HB.out hbu); replace HO3 := hid (HO3.out.below hbu); replace HO4 := hid (HO4.out.below hbu); replace HF := hid (HF.out.below hbu); replace HH := hid (HH.out.below hbu); replace HF14 := hid (HF14.out.below hbu); replace HO14 := hid (HO14.out.below hbu); replace HF15 := hid (HF15.out.below hbu); replace HO15 := hid (HO15.out.below hbu); replace HW := hid (belNx HW.out hbu); (try (replace HN1 := hid (HN1.out.below hbu))); (try (replace HN2 := hid (HN2.out.below hbu))); (try (replace HN3 := hid (HN3.out.below hbu))); (try (replace HN4 := hid (HN4.out.below hbu))); (try (replace HN5 := hid (HN5.out.below hbu))); (try (replace HN6 := hid (HN6.out.below hbu))); (try (replace HN7 := hid (HN7.out.below hbu))); (try (replace HN8 := hid (HN8.out.below hbu))); clear hbu hb; have HN5 := hid hv; clear hv) | (go_at_call 15; (with_reducible refine (pair_lit (pair_glob f) ?_ ?_ ?_ ?_).mono ?_); (first | exact HN4.out | exact HN4.out.below (by go_grown)); (first | exact HN5.out | exact HN5.out.below (by go_grown)); (first | exact HG.out | exact HG.out.nx (by go_grown)); (first | exact HK.out | exact HK.out.nx (by go_grown)); rintro e U ⟨rfl, hb⟩; have hbu := bel_of HG.out (by first | exact Below.refl _ _ | go_grown) hb; replace HG := hid (HG.out.nx hbu); replace HK := hid (HK.out.nx hbu); replace HB := hid (belNx HB.out hbu); replace HO3 := hid (HO3.out.below hbu); replace HO4 := hid (HO4.out.below hbu); replace HF := hid (HF.out.below hbu); replace HH := hid (HH.out.below hbu); replace HF14 := hid (HF14.out.below hbu); replace HO14 := hid (HO14.out.below hbu); replace HF15 := hid (HF15.out.below hbu); replace HO15 := hid (HO15.out.below hbu); replace HW := hid (belNx HW.out hbu); (try (replace HN1 := hid (HN1.out.below hbu))); (try (replace HN2 := hid (HN2.out.below hbu))); (try (replace HN3 := hid (HN3.out.below hbu))); (try (replace HN4 := hid (HN4.out.below hbu))); (try (replace HN5 := hid (HN5.out.below hbu))); (try (replace HN6 := hid (HN6.out.below hbu))); (try (replace HN7 := hid (HN7.out.below hbu))); (try (replace HN8 := hid (HN8.out.below hbu))); clear hbu hb) | (go_at_call 17; (with_reducible refine (one_lit 19 (opF 19 [f]) rfl ?_).mono ?_); (first | exact HF.out | exact HF.out.below (by go_grown)); rintro e U ⟨A', c', rfl, hv, hb⟩; have hbu := bel_of HG.out (by first | exact Below.refl _ _ | go_grown) hb; replace HG := hid (HG.out.nx hbu); replace HK := hid (HK.out.nx hbu); replace HB := hid (belNx HB.out hbu); replace HO3 := hid (HO3.out.below hbu); replace HO4 := hid (HO4.out.below hbu); replace HF := hid (HF.out.below hbu); replace HH := hid (HH.out.below hbu); replace HF14 := hid (HF14.out.below hbu); replace HO14 := hid (HO14.out.below hbu); replace HF15 := hid (HF15.out.below hbu); replace HO15 := hid (HO15.out.below hbu); replace HW := hid (belNx HW.out hbu); (try (replace HN1 := hid (HN1.out.below hbu))); (try (replace HN2 := hid (HN2.out.below hbu))); (try (replace HN3 := hid (HN3.out.below hbu))); (try (replace HN4 := hid (HN4.out.below hbu))); (try (replace HN5 := hid (HN5.out.below hbu))); (try (replace HN6 := hid (HN6.out.below hbu))); (try (replace HN7 := hid (HN7.out.below hbu))); (try (replace HN8 := hid (HN8.out.below hbu))); clear hbu hb; have HN6 := hid hv; clear hv) | (go_at_call 17; (with_reducible refine (one_lit 4 (opF 4 [opF 19 [f]]) rfl ?_).mono ?_); (first | exact HN6.out | exact HN6.out.below (by go_grown)); rintro e U ⟨A', c', rfl, hv, hb⟩; have hbu := bel_of HG.out (by first | exact Below.refl _ _ | go_grown) hb; replace HG := hid (HG.out.nx hbu); replace HK := hid (HK.out.nx hbu); replace HB := hid (belNx HB.out hbu); replace HO3 := hid (HO3.out.below hbu); replace HO4 := hid (HO4.out.below hbu); replace HF := hid (HF.out.below hbu); replace HH := hid (HH.out.below hbu); replace HF14 := hid (HF14.out.below hbu); replace HO14 := hid (HO14.out.below hbu); replace HF15 := hid (HF15.out.below hbu); replace HO15 := hid (HO15.out.below hbu); replace HW := hid (belNx HW.out hbu); (try (replace HN1 := hid (HN1.out.below hbu))); (try (replace HN2 := hid (HN2.out.below hbu))); (try (replace HN3 := hid (HN3.out.below hbu))); (try (replace HN4 := hid (HN4.out.below hbu))); (try (replace HN5 := hid (HN5.out.below hbu))); (try (replace HN6 := hid (HN6.out.below hbu))); (try (replace HN7 := hid (HN7.out.below hbu))); (try (replace HN8 := hid (HN8.out.below hbu))); clear hbu hb; have HN7 := hid hv; clear hv) | (go_at_call 17; (with_reducible refine (one_lit 18 (opF 18 [opF 4 [f]]) rfl ?_).mono ?_); (first | exact HF14.out | exact HF14.out.below (by go_grown)); rintro e U ⟨A', c', rfl, hv, hb⟩; have hbu := bel_of HG.out (by first | exact Below.refl _ _ | go_grown) hb; replace HG := hid (HG.out.nx hbu); replace HK := hid (HK.out.nx hbu); replace HB := hid (belNx HB.out hbu); replace HO3 := hid (HO3.out.below hbu); replace HO4 := hid (HO4.out.below hbu); replace HF := hid (HF.out.below hbu); replace HH := hid (HH.out.below hbu); replace HF14 := hid (HF14.out.below hbu); replace HO14 := hid (HO14.out.below hbu); replace HF15 := hid (HF15.out.below hbu); replace HO15 := hid (HO15.out.below hbu); replace HW := hid (belNx HW.out hbu); (try (replace HN1 := hid (HN1.out.below hbu))); (try (replace HN2 := hid (HN2.out.below hbu))); (try (replace HN3 := hid (HN3.out.below hbu))); (try (replace HN4 := hid (HN4.out.below hbu))); (try (replace HN5 := hid (HN5.out.below hbu))); (try (replace HN6 := hid (HN6.out.below hbu))); (try (replace HN7 := hid (HN7.out.below hbu))); (try (replace HN8 := hid (HN8.out.below hbu))); clear hbu hb; have HN8 := hid hv; clear hv) | (go_at_call 15; (with_reducible refine (pair_lit (pair_hist f) ?_ ?_ ?_ ?_).mono ?_); (first | exact HN7.out | exact HN7.out.below (by go_grown)); (first | exact HN8.out | exact HN8.out.below (by go_grown)); (first | exact HG.out | exact HG.out.nx (by go_grown)); (first | exact HK.out | exact HK.out.nx (by go_grown)); rintro e U ⟨rfl, hb⟩; have hbu := bel_of HG.out (by first | exact Below.refl _ _ | go_grown) hb; replace HG := hid (HG.out.nx hbu); replace HK := hid (HK.out.nx hbu); replace HB := hid (belNx HB.out hbu); replace HO3 := hid (HO3.out.below hbu); replace HO4 := hid (HO4.out.below hbu); replace HF := hid (HF.out.below hbu); replace HH := hid (HH.out.below hbu); replace HF14 := hid (HF14.out.below hbu); replace HO14 := hid (HO14.out.below hbu); replace HF15 := hid (HF15.out.below hbu); replace HO15 := hid (HO15.out.below hbu); replace HW := hid (belNx HW.out hbu); (try (replace HN1 := hid (HN1.out.below hbu))); (try (replace HN2 := hid (HN2.out.below hbu))); (try (replace HN3 := hid (HN3.out.below hbu))); (try (replace HN4 := hid (HN4.out.below hbu))); (try (replace HN5 := hid (HN5.out.below hbu))); (try (replace HN6 := hid (HN6.out.below hbu))); (try (replace HN7 := hid (HN7.out.below hbu))); (try (replace HN8 := hid (HN8.out.below hbu))); clear hbu hb))
    all_goals
      refine tail_close HTL.out ?_ ?_
      · first
          | exact ⟨rfl, (by first | exact HW.out | exact belNx HW.out (by go_grown))⟩
      · kernel_rfl
    -->>
  rintro us W ⟨hu, hbu⟩
  apply hK
  simp only [putAll, List.range', List.range'_succ, Act.put, List.setIfInBounds_toArray, List.set_cons_zero, List.set_cons_succ]
  rw [hu]
  replace HG := hid (HG.out.nx hbu)
  replace HK := hid (HK.out.nx hbu)
  replace HB := hid (belNx HB.out hbu)
  replace HO3 := hid (HO3.out.below hbu)
  replace HO4 := hid (HO4.out.below hbu)
  replace HF := hid (HF.out.below hbu)
  replace HH := hid (HH.out.below hbu)
  replace HF14 := hid (HF14.out.below hbu)
  replace HO14 := hid (HO14.out.below hbu)
  replace HF15 := hid (HF15.out.below hbu)
  replace HO15 := hid (HO15.out.below hbu)
  clear hK hu hbu
  go_upto_region 13 with (fail)
  rename_i K hK
  refine wp_tail K (17 :: List.range' 92 16) (fun us W' => us 17 = .bool true ∧ Below W.heap.size W W') ?_ ?_
  rotate_left
  · --<<
    intro HTAIL
    have HTL := hid HTAIL
    clear HTAIL hK
    have HW := hid (Below.refl W.heap.size W)
    obtain ⟨x0, x1, x2, x3, x4, x5⟩ := HO3.out.cells
    obtain ⟨y0, y1, y2, y3, y4, y5⟩ := HO4.out.cells
    obtain ⟨z0, z1, z2, z3, z4, z5⟩ := HO14.out.cells
    obtain ⟨s0, s1, s2, s3, s4, s5⟩ := HO15.out.cells
    go_region_held3 (fun W' : World => W'.cell? ⟨b3, 0, none⟩ = some (.int .i64 (f.op)) ∧ W'.cell? ⟨b3, 1, none⟩ = some (.string f.name) ∧ W'.cell? ⟨b3, 2, none⟩ = some (.int .i64 (f.val)) ∧ W'.cell? ⟨b3, 3, none⟩ = some (.int .i64 (f.bound)) ∧ W'.cell? ⟨b3, 4, none⟩ = some (.slice A f.args.length c) ∧ W'.cell? ⟨b4, 0, none⟩ = some (.int .i64 (g.op)) ∧ W'.cell? ⟨b4, 1, none⟩ = some (.string g.name) ∧ W'.cell? ⟨b4, 2, none⟩ = some (.int .i64 (g.val)) ∧ W'.cell? ⟨b4, 3, none⟩ = some (.int .i64 (g.bound)) ∧ W'.cell? ⟨b4, 4, none⟩ = some (.slice A2 g.args.length c2) ∧ W'.cell? ⟨b14, 0, none⟩ = some (.int .i64 (4)) ∧ W'.cell? ⟨b14, 1, none⟩ = some (.string ⟨#[]⟩) ∧ W'.cell? ⟨b14, 2, none⟩ = some (.int .i64 (0)) ∧ W'.cell? ⟨b14, 3, none⟩ = some (.int .i64 (0)) ∧ W'.cell? ⟨b14, 4, none⟩ = some (.slice A14 1 c14) ∧ W'.cell? ⟨b15, 0, none⟩ = some (.int .i64 (4)) ∧ W'.cell? ⟨b15, 1, none⟩ = some (.string ⟨#[]⟩) ∧ W'.cell? ⟨b15, 2, none⟩ = some (.int .i64 (0)) ∧ W'.cell? ⟨b15, 3, none⟩ = some (.int .i64 (0)) ∧ W'.cell? ⟨b15, 4, none⟩ = some (.slice A15 1 c15))
      (first | (with_reducible exact ⟨(HO3.out).cells.1, (HO3.out).cells.2.1, (HO3.out).cells.2.2.1, (HO3.out).cells.2.2.2.1, (HO3.out).cells.2.2.2.2.1, (HO4.out).cells.1, (HO4.out).cells.2.1, (HO4.out).cells.2.2.1, (HO4.out).cells.2.2.2.1, (HO4.out).cells.2.2.2.2.1, (HO14.out).cells.1, (HO14.out).cells.2.1, (HO14.out).cells.2.2.1, (HO14.out).cells.2.2.2.1, (HO14.out).cells.2.2.2.2.1, (HO15.out).cells.1, (HO15.out).cells.2.1, (HO15.out).cells.2.2.1, (HO15.out).cells.2.2.2.1, (HO15.out).cells.2.2.2.2.1⟩) | (go_keep; done))
      (first | (go_at_call 16; (with_reducible refine (two_lit 9 (opF 9 [f, g]) rfl ?_ ?_).mono ?_); (first | exact HF.out | exact HF.out.below (by go_grown)); (first | exact HH.out | exact HH.out.below (by go_grown)); rintro e U ⟨A', c', rfl, hv, hb⟩; have hbu := bel_of HG.out (by first | exact Below.refl _ _ | go_grown) hb; replace HG := hid (HG.out.nx hbu); replace HK := hid (HK.out.nx hbu); replace HB := hid (belNx HB.out hbu); replace HO3 := hid (HO3.out.below hbu); replace HO4 := hid (HO4.out.below hbu); replace HF := hid (HF.out.below hbu); replace HH := hid (HH.out.below hbu); replace HF14 := hid (HF14.out.below hbu); replace HO14 := hid (HO14.out.below hbu); replace HF15 := hid (HF15.out.below hbu); replace HO15 := hid (HO15.out.below hbu); replace HW := hid (belNx HW.out hbu); (try (replace HN1 := hid (HN1.out.below hbu))); (try (replace HN2 := hid (HN2.out.below hbu))); (try (replace HN3 := hid (HN3.out.below hbu))); (try (replace HN4 := hid (HN4.out.below hbu))); (try (replace HN5 := hid (HN5.out.below hbu))); (try (replace HT := hid (HT.out.below hbu))); clear hbu hb; have HN1 := hid hv; clear hv) | (go_at_call 17; (with_reducible refine (one_lit 4 (opF 4 [opF 9 [f, g]]) rfl ?_).mono ?_); (first | exact HN1.out | exact HN1.out.below (by go_grown)); rintro e U ⟨A', c', rfl, hv, hb⟩; have hbu := bel_of HG.out (by first | exact Below.refl _ _ | go_grown) hb; replace HG := hid (HG.out.nx hbu); replace HK := hid (HK.out.nx hbu); replace HB := hid (belNx HB.out hbu); replace HO3 := hid (HO3.out.below hbu); replace HO4 := hid (HO4.out.below hbu); replace HF := hid (HF.out.below hbu); replace HH := hid (HH.out.below hbu); replace HF14 := hid (HF14.out.below hbu); replace HO14 := hid (HO14.out.below hbu); replace HF15 := hid (HF15.out.below hbu); replace HO15 := hid (HO15.out.below hbu); replace HW := hid (belNx HW.out hbu); (try (replace HN1 := hid (HN1.out.below hbu))); (try (replace HN2 := hid (HN2.out.below hbu))); (try (replace HN3 := hid (HN3.out.below hbu))); (try (replace HN4 := hid (HN4.out.below hbu))); (try (replace HN5 := hid (HN5.out.below hbu))); (try (replace HT := hid (HT.out.below hbu))); clear hbu hb; have HN2 := hid hv; clear hv) | (go_at_call 16; (with_reducible refine (two_lit 10 (opF 10 [opF 4 [f], opF 4 [g]]) rfl ?_ ?_).mono ?_); (first | exact HF14.out | exact HF14.out.below (by go_grown)); (first | exact HF15.out | exact HF15.out.below (by go_grown)); rintro e U ⟨A', c', rfl, hv, hb⟩; have hbu := bel_of HG.out (by first | exact Below.refl _ _ | go_grown) hb; replace HG := hid (HG.out.nx hbu); replace HK := hid (HK.out.nx hbu); replace HB := hid (belNx HB.out hbu); replace HO3 := hid (HO3.out.below hbu); replace HO4 := hid (HO4.out.below hbu); replace HF := hid (HF.out.below hbu); replace HH := hid (HH.out.below hbu); replace HF14 := hid (HF14.out.below hbu); replace HO14 := hid (HO14.out.below hbu); replace HF15 := hid (HF15.out.below hbu); replace HO15 := hid (HO15.out.below hbu); replace HW := hid (belNx HW.out hbu); (try (replace HN1 := hid (HN1.out.below hbu))); (try (replace HN2 := hid (HN2.out.below hbu))); (try (replace HN3 := hid (HN3.out.below hbu))); (try (replace HN4 := hid (HN4.out.below hbu))); (try (replace HN5 := hid (HN5.out.below hbu))); (try (replace HT := hid (HT.out.below hbu))); clear hbu hb; have HN3 := hid hv; clear hv) | (go_at_call 15; (with_reducible refine (pair_lit (pair_until f g) ?_ ?_ ?_ ?_).mono ?_); (first | exact HN2.out | exact HN2.out.below (by go_grown)); (first | exact HN3.out | exact HN3.out.below (by go_grown)); (first | exact HG.out | exact HG.out.nx (by go_grown)); (first | exact HK.out | exact HK.out.nx (by go_grown)); rintro e U ⟨rfl, hb⟩; have hbu := bel_of HG.out (by first | exact Below.refl _ _ | go_grown) hb; replace HG := hid (HG.out.nx hbu); replace HK := hid (HK.out.nx hbu); replace HB := hid (belNx HB.out hbu); replace HO3 := hid (HO3.out.below hbu); replace HO4 := hid (HO4.out.below hbu); replace HF := hid (HF.out.below hbu); replace HH := hid (HH.out.below hbu); replace HF14 := hid (HF14.out.below hbu); replace HO14 := hid (HO14.out.below hbu); replace HF15 := hid (HF15.out.below hbu); replace HO15 := hid (HO15.out.below hbu); replace HW := hid (belNx HW.out hbu); (try (replace HN1 := hid (HN1.out.below hbu))); (try (replace HN2 := hid (HN2.out.below hbu))); (try (replace HN3 := hid (HN3.out.below hbu))); (try (replace HN4 := hid (HN4.out.below hbu))); (try (replace HN5 := hid (HN5.out.below hbu))); (try (replace HT := hid (HT.out.below hbu))); clear hbu hb) | (go_at_call 17; (with_reducible refine (one_lit 11 (opF 11 [f]) rfl ?_).mono ?_); (first | exact HF.out | exact HF.out.below (by go_grown)); rintro e U ⟨A', c', rfl, hv, hb⟩; have hbu := bel_of HG.out (by first | exact Below.refl _ _ | go_grown) hb; replace HG := hid (HG.out.nx hbu); replace HK := hid (HK.out.nx hbu); replace HB := hid (belNx HB.out hbu); replace HO3 := hid (HO3.out.below hbu); replace HO4 := hid (HO4.out.below hbu); replace HF := hid (HF.out.below hbu); replace HH := hid (HH.out.below hbu); replace HF14 := hid (HF14.out.below hbu); replace HO14 := hid (HO14.out.below hbu); replace HF15 := hid (HF15.out.below hbu); replace HO15 := hid (HO15.out.below hbu); replace HW := hid (belNx HW.out hbu); (try (replace HN1 := hid (HN1.out.below hbu))); (try (replace HN2 := hid (HN2.out.below hbu))); (try (replace HN3 := hid (HN3.out.below hbu))); (try (replace HN4 := hid (HN4.out.below hbu))); (try (replace HN5 := hid (HN5.out.below hbu))); (try (replace HT := hid (HT.out.below hbu))); clear hbu hb; have HN4 := hid hv; clear hv) | (go_at_call 18; (with_reducible refine (true_lit _).mono ?_); rintro e U ⟨rfl, hv, hb⟩; have hbu := bel_of HG.out (by first | exact Below.refl _ _ | go_grown) hb; replace HG := hid (HG.out.nx hbu); replace HK := hid (HK.out.nx hbu); replace HB := hid (belNx HB.out hbu); replace HO3 := hid (HO3.out.below hbu); replace HO4 := hid (HO4.out.below hbu); replace HF := hid (HF.out.below hbu); replace HH := hid (HH.out.below hbu); replace HF14 := hid (HF14.out.below hbu); replace HO14 := hid (HO14.out.below hbu); replace HF15 := hid (HF15.out.below hbu); replace HO15 := hid (HO15.out.below hbu); replace HW := hid (belNx HW.out hbu); (try (replace HN1 := hid (HN1.out.below hbu))); (try (replace HN2 := hid (HN2.out.below hbu))); (try (replace HN3 := hid (HN3.out.below hbu))); (try (replace HN4 := hid (HN4.out.below hbu))); (try (replace HN5 := hid (HN5.out.below hbu))); (try (replace HT := hid (HT.out.below hbu))); clear hbu hb; have HT := hid hv; clear hv) | (go_at_call 16; (with_reducible refine (two_lit 9 (opF 9 [opF 1 [], f]) rfl ?_ ?_).mono ?_); (first | exact HT.out | exact HT.out.below (by go_grown)); (first | exact HF.out | exact HF.out.below (by go_grown)); rintro e U ⟨A', c', rfl, hv, hb⟩; have hbu := bel_of HG.out (by first | exact Below.refl _ _ | go_grown) hb; replace HG := hid (HG.out.nx hbu); replace HK := hid (HK.out.nx hbu); replace HB := hid (belNx HB.out hbu); replace HO3 := hid (HO3.out.below hbu); replace HO4 := hid (HO4.out.below hbu); replace HF := hid (HF.out.below hbu); replace HH := hid (HH.out.below hbu); replace HF14 := hid (HF14.out.below hbu); replace HO14 := hid (HO14.out.below hbu); replace HF15 := hid (HF15.out.below hbu); replace HO15 := hid (HO15.out.below hbu); replace HW := hid (belNx HW.out hbu); (try (replace HN1 := hid (HN1.out.below hbu))); (try (replace HN2 := hid (HN2.out.below hbu))); (try (replace HN3 := hid (HN3.out.below hbu))); (try (replace HN4 := hid (HN4.out.below hbu))); (try (replace HN5 := hid (HN5.out.below hbu))); (try (replace HT := hid (HT.out.below hbu))); clear hbu hb; have HN5 := hid hv; clear hv) | (go_at_call 15; (with_reducible refine (pair_lit (pair_fin f) ?_ ?_ ?_ ?_).mono ?_); (first | exact HN4.out | exact HN4.out.below (by go_grown)); (first | exact HN5.out | exact HN5.out.below (by go_grown)); (first | exact HG.out | exact HG.out.nx (by go_grown)); (first | exact HK.out | exact HK.out.nx (by go_grown)); rintro e U ⟨rfl, hb⟩; have hbu := bel_of HG.out (by first | exact Below.refl _ _ | go_grown) hb; replace HG := hid (HG.out.nx hbu); replace HK := hid (HK.out.nx hbu); replace HB := hid (belNx HB.out hbu); replace HO3 := hid (HO3.out.below hbu); replace HO4 := hid (HO4.out.below hbu); replace HF := hid (HF.out.below hbu); replace HH := hid (HH.out.below hbu); replace HF14 := hid (HF14.out.below hbu); replace HO14 := hid (HO14.out.below hbu); replace HF15 := hid (HF15.out.below hbu); replace HO15 := hid (HO15.out.below hbu); replace HW := hid (belNx HW.out hbu); (try (replace HN1 := hid (HN1.out.below hbu))); (try (replace HN2 := hid (HN2.out.below hbu))); (try (replace HN3 := hid (HN3.out.below hbu))); (try (replace HN4 := hid (HN4.out.below hbu))); (try (replace HN5 := hid (HN5.out.below hbu))); (try (replace HT := hid (HT.out.below hbu))); clear hbu hb))
    all_goals
      refine tail_close HTL.out ?_ ?_
      · first
          | exact ⟨rfl, (by first | exact HW.out | exact belNx HW.out (by go_grown))⟩
      · kernel_rfl
    -->>
  rintro us W ⟨hu, hbu⟩
  apply hK
  simp only [putAll, List.range', List.range'_succ, Act.put, List.setIfInBounds_toArray, List.set_cons_zero, List.set_cons_succ]
  rw [hu]
  replace HG := hid (HG.out.nx hbu)
  replace HK := hid (HK.out.nx hbu)
  replace HB := hid (belNx HB.out hbu)
  replace HO3 := hid (HO3.out.below hbu)
  replace HO4 := hid (HO4.out.below hbu)
  replace HF := hid (HF.out.below hbu)
  replace HH := hid (HH.out.below hbu)
  replace HF14 := hid (HF14.out.below hbu)
  replace HO14 := hid (HO14.out.below hbu)
  replace HF15 := hid (HF15.out.below hbu)
  replace HO15 := hid (HO15.out.below hbu)
  clear hK hu hbu
  obtain ⟨m, hm, hm1⟩ : ∃ m : Nat, x.tmod 2 = (m : Int) ∧ m ≤ 1 := ⟨(x % 2).toNat, by rw [Int.tmod_eq_emod_of_nonneg hx0]; omega, by omega⟩
  have wm : IntKind.i64.wrap (1 - (m : Int)) = 1 - (m : Int) := IntWalk.i64_in _ (by omega)
  go_upto_region 15 with (fail)
  rename_i K hK
  refine wp_tail K (19 :: List.range' 111 22) (fun us W' => us 19 = .bool true ∧ Below W.heap.size W W') ?_ ?_
  rotate_left
  · --<<
    intro HTAIL
    have HTL := hid HTAIL
    clear HTAIL hK
    have HW := hid (Below.refl W.heap.size W)
    obtain ⟨x0, x1, x2, x3, x4, x5⟩ := HO3.out.cells
    obtain ⟨y0, y1, y2, y3, y4, y5⟩ := HO4.out.cells
    obtain ⟨z0, z1, z2, z3, z4, z5⟩ := HO14.out.cells
    obtain ⟨s0, s1, s2, s3, s4, s5⟩ := HO15.out.cells
    go_region_held3 (fun W' : World => W'.cell? ⟨b3, 0, none⟩ = some (.int .i64 (f.op)) ∧ W'.cell? ⟨b3, 1, none⟩ = some (.string f.name) ∧ W'.cell? ⟨b3, 2, none⟩ = some (.int .i64 (f.val)) ∧ W'.cell? ⟨b3, 3, none⟩ = some (.int .i64 (f.bound)) ∧ W'.cell? ⟨b3, 4, none⟩ = some (.slice A f.args.length c) ∧ W'.cell? ⟨b4, 0, none⟩ = some (.int .i64 (g.op)) ∧ W'.cell? ⟨b4, 1, none⟩ = some (.string g.name) ∧ W'.cell? ⟨b4, 2, none⟩ = some (.int .i64 (g.val)) ∧ W'.cell? ⟨b4, 3, none⟩ = some (.int .i64 (g.bound)) ∧ W'.cell? ⟨b4, 4, none⟩ = some (.slice A2 g.args.length c2) ∧ W'.cell? ⟨b14, 0, none⟩ = some (.int .i64 (4)) ∧ W'.cell? ⟨b14, 1, none⟩ = some (.string ⟨#[]⟩) ∧ W'.cell? ⟨b14, 2, none⟩ = some (.int .i64 (0)) ∧ W'.cell? ⟨b14, 3, none⟩ = some (.int .i64 (0)) ∧ W'.cell? ⟨b14, 4, none⟩ = some (.slice A14 1 c14) ∧ W'.cell? ⟨b15, 0, none⟩ = some (.int .i64 (4)) ∧ W'.cell? ⟨b15, 1, none⟩ = some (.string ⟨#[]⟩) ∧ W'.cell? ⟨b15, 2, none⟩ = some (.int .i64 (0)) ∧ W'.cell? ⟨b15, 3, none⟩ = some (.int .i64 (0)) ∧ W'.cell? ⟨b15, 4, none⟩ = some (.slice A15 1 c15))
      (first | (with_reducible exact ⟨(HO3.out).cells.1, (HO3.out).cells.2.1, (HO3.out).cells.2.2.1, (HO3.out).cells.2.2.2.1, (HO3.out).cells.2.2.2.2.1, (HO4.out).cells.1, (HO4.out).cells.2.1, (HO4.out).cells.2.2.1, (HO4.out).cells.2.2.2.1, (HO4.out).cells.2.2.2.2.1, (HO14.out).cells.1, (HO14.out).cells.2.1, (HO14.out).cells.2.2.1, (HO14.out).cells.2.2.2.1, (HO14.out).cells.2.2.2.2.1, (HO15.out).cells.1, (HO15.out).cells.2.1, (HO15.out).cells.2.2.1, (HO15.out).cells.2.2.2.1, (HO15.out).cells.2.2.2.2.1⟩) | (with_reducible exact ⟨(HO3.out.alloc _).cells.1, (HO3.out.alloc _).cells.2.1, (HO3.out.alloc _).cells.2.2.1, (HO3.out.alloc _).cells.2.2.2.1, (HO3.out.alloc _).cells.2.2.2.2.1, (HO4.out.alloc _).cells.1, (HO4.out.alloc _).cells.2.1, (HO4.out.alloc _).cells.2.2.1, (HO4.out.alloc _).cells.2.2.2.1, (HO4.out.alloc _).cells.2.2.2.2.1, (HO14.out.alloc _).cells.1, (HO14.out.alloc _).cells.2.1, (HO14.out.alloc _).cells.2.2.1, (HO14.out.alloc _).cells.2.2.2.1, (HO14.out.alloc _).cells.2.2.2.2.1, (HO15.out.alloc _).cells.1, (HO15.out.alloc _).cells.2.1, (HO15.out.alloc _).cells.2.2.1, (HO15.out.alloc _).cells.2.2.2.1, (HO15.out.alloc _).cells.2.2.2.2.1⟩) | (with_reducible exact ⟨((HO3.out.alloc _).alloc _).cells.1, ((HO3.out.alloc _).alloc _).cells.2.1, ((HO3.out.alloc _).alloc _).cells.2.2.1, ((HO3.out.alloc _).alloc _).cells.2.2.2.1, ((HO3.out.alloc _).alloc _).cells.2.2.2.2.1, ((HO4.out.alloc _).alloc _).cells.1, ((HO4.out.alloc _).alloc _).cells.2.1, ((HO4.out.alloc _).alloc _).cells.2.2.1, ((HO4.out.alloc _).alloc _).cells.2.2.2.1, ((HO4.out.alloc _).alloc _).cells.2.2.2.2.1, ((HO14.out.alloc _).alloc _).cells.1, ((HO14.out.alloc _).alloc _).cells.2.1, ((HO14.out.alloc _).alloc _).cells.2.2.1, ((HO14.out.alloc _).alloc _).cells.2.2.2.1, ((HO14.out.alloc _).alloc _).cells.2.2.2.2.1, ((HO15.out.alloc _).alloc _).cells.1, ((HO15.out.alloc _).alloc _).cells.2.1, ((HO15.out.alloc _).alloc _).cells.2.2.1, ((HO15.out.alloc _).alloc _).cells.2.2.2.1, ((HO15.out.alloc _).alloc _).cells.2.2.2.2.1⟩) | (go_keep; done))
      (first | (go_at_call 19; (with_reducible refine (late_lit (k := 2) 16 (m : Int) [f, g] ?_ rfl).mono ?_); (first | exact lit_slice2 (HF.out.below (by go_grown)) (HH.out.below (by go_grown)) (at_new _ _ _ rfl) | exact lit_slice2 (HF.out.below (by go_grown)) (HH.out.below (by go_grown)) (at_new _ _ _ (by simp)) | exact lit_slice2 (HF.out.below (by go_grown)) (HH.out.below (by go_grown)) ((at_old _ _ _ (by simp)).trans (at_new _ _ _ rfl)) | exact lit_slice2 (HF.out.below (by go_grown)) (HH.out.below (by go_grown)) ((at_old _ _ _ (by simp)).trans (at_new _ _ _ (by simp)))); rintro e U ⟨rfl, hv, hb⟩; have hbu := bel_of HG.out (by first | exact Below.refl _ _ | go_grown) hb; (first | (replace HSL := hid (HSL.out.any hbu)) | (have HSL := hid (sl2_newd hb (HF14.out.below (by first | exact Below.refl _ _ | go_grown)) (HF15.out.below (by first | exact Below.refl _ _ | go_grown)) (at_new _ _ (W.heap.size + 1) (by simp)))) | (have HSL := hid (sl2_newd hb (HF14.out.below (by first | exact Below.refl _ _ | go_grown)) (HF15.out.below (by first | exact Below.refl _ _ | go_grown)) (at_new _ _ _ rfl))) | (have HSL := hid (sl2_newd hb (HF14.out.below (by first | exact Below.refl _ _ | go_grown)) (HF15.out.below (by first | exact Below.refl _ _ | go_grown)) ((at_old _ _ _ (by simp)).trans (at_new _ _ _ rfl)))) | (have HSL := hid (sl2_newd hb (HF14.out.below (by first | exact Below.refl _ _ | go_grown)) (HF15.out.below (by first | exact Below.refl _ _ | go_grown)) ((at_old _ _ _ (by simp)).trans (at_new _ _ _ (by simp))))) | (have HSL := hid (sl2_new hb (HF14.out.below (by first | exact Below.refl _ _ | go_grown)) (HF15.out.below (by first | exact Below.refl _ _ | go_grown)) (at_new _ _ (W.heap.size + 1) (by simp)))) | (have HSL := hid (sl2_new hb (HF14.out.below (by first | exact Below.refl _ _ | go_grown)) (HF15.out.below (by first | exact Below.refl _ _ | go_grown)) (at_new _ _ _ rfl))) | (have HSL := hid (sl2_new hb (HF14.out.below (by first | exact Below.refl _ _ | go_grown)) (HF15.out.below (by first | exact Below.refl _ _ | go_grown)) ((at_old _ _ _ (by simp)).trans (at_new _ _ _ rfl)))) | (have HSL := hid (sl2_new hb (HF14.out.below (by first | exact Below.refl _ _ | go_grown)) (HF15.out.below (by first | exact Below.refl _ _ | go_grown)) ((at_old _ _ _ (by simp)).trans (at_new _ _ _ (by simp))))) | skip); replace HG := hid (HG.out.nx hbu); replace HK := hid (HK.out.nx hbu); replace HB := hid (belNx HB.out hbu); replace HO3 := hid (HO3.out.below hbu); replace HO4 := hid (HO4.out.below hbu); replace HF := hid (HF.out.below hbu); replace HH := hid (HH.out.below hbu); replace HF14 := hid (HF14.out.below hbu); replace HO14 := hid (HO14.out.below hbu); replace HF15 := hid (HF15.out.below hbu); replace HO15 := hid (HO15.out.below hbu); replace HW := hid (belNx HW.out hbu); (try (replace HN1 := hid (HN1.out.below hbu))); (try (replace HN2 := hid (HN2.out.below hbu))); (try (replace HN3 := hid (HN3.out.below hbu))); (try (replace HN4 := hid (HN4.out.below hbu))); (try (replace HN5 := hid (HN5.out.below hbu))); (try (replace HT := hid (HT.out.below hbu))); clear hbu hb; have HN1 := hid hv; clear hv) | (go_at_call 17; (with_reducible refine (one_lit 4 (opF 4 [lateF 16 (m : Int) [f, g]]) rfl ?_).mono ?_); (first | exact HN1.out | exact HN1.out.below (by go_grown)); rintro e U ⟨A', c', rfl, hv, hb⟩; have hbu := bel_of HG.out (by first | exact Below.refl _ _ | go_grown) hb; (first | (replace HSL := hid (HSL.out.any hbu)) | (have HSL := hid (sl2_newd hb (HF14.out.below (by first | exact Below.refl _ _ | go_grown)) (HF15.out.below (by first | exact Below.refl _ _ | go_grown)) (at_new _ _ (W.heap.size + 1) (by simp)))) | (have HSL := hid (sl2_newd hb (HF14.out.below (by first | exact Below.refl _ _ | go_grown)) (HF15.out.below (by first | exact Below.refl _ _ | go_grown)) (at_new _ _ _ rfl))) | (have HSL := hid (sl2_newd hb (HF14.out.below (by first | exact Below.refl _ _ | go_grown)) (HF15.out.below (by first | exact Below.refl _ _ | go_grown)) ((at_old _ _ _ (by simp)).trans (at_new _ _ _ rfl)))) | (have HSL := hid (sl2_newd hb (HF14.out.below (by first | exact Below.refl _ _ | go_grown)) (HF15.out.below (by first | exact Below.refl _ _ | go_grown)) ((at_old _ _ _ (by simp)).trans (at_new _ _ _ (by simp))))) | (have HSL := hid (sl2_new hb (HF14.out.below (by first | exact Below.refl _ _ | go_grown)) (HF15.out.below (by first | exact Below.refl _ _ | go_grown)) (at_new _ _ (W.heap.size + 1) (by simp)))) | (have HSL := hid (sl2_new hb (HF14.out.below (by first | exact Below.refl _ _ | go_grown)) (HF15.out.below (by first | exact Below.refl _ _ | go_grown)) (at_new _ _ _ rfl))) | (have HSL := hid (sl2_new hb (HF14.out.below (by first | exact Below.refl _ _ | go_grown)) (HF15.out.below (by first | exact Below.refl _ _ | go_grown)) ((at_old _ _ _ (by simp)).trans (at_new _ _ _ rfl)))) | (have HSL := hid (sl2_new hb (HF14.out.below (by first | exact Below.refl _ _ | go_grown)) (HF15.out.below (by first | exact Below.refl _ _ | go_grown)) ((at_old _ _ _ (by simp)).trans (at_new _ _ _ (by simp))))) | skip); replace HG := hid (HG.out.nx hbu); replace HK := hid (HK.out.nx hbu); replace HB := hid (belNx HB.out hbu); replace HO3 := hid (HO3.out.below hbu); replace HO4 := hid (HO4.out.below hbu); replace HF := hid (HF.out.below hbu); replace HH := hid (HH.out.below hbu); replace HF14 := hid (HF14.out.below hbu); replace HO14 := hid (HO14.out.below hbu); replace HF15 := hid (HF15.out.below hbu); replace HO15 := hid (HO15.out.below hbu); replace HW := hid (belNx HW.out hbu); (try (replace HN1 := hid (HN1.out.below hbu))); (try (replace HN2 := hid (HN2.out.below hbu))); (try (replace HN3 := hid (HN3.out.below hbu))); (try (replace HN4 := hid (HN4.out.below hbu))); (try (replace HN5 := hid (HN5.out.below hbu))); (try (replace HT := hid (HT.out.below hbu))); clear hbu hb; have HN2 := hid hv; clear hv) | (go_at_call 19; (with_reducible refine (late_lit (k := 2) 17 (1 - (m : Int)) [opF 4 [f], opF 4 [g]] ?_ rfl).mono ?_); (first | (with_reducible exact HSL.out) | (first | exact lit_slice2 (HF14.out.below (by go_grown)) (HF15.out.below (by go_grown)) (at_new _ _ _ rfl) | exact lit_slice2 (HF14.out.below (by go_grown)) (HF15.out.below (by go_grown)) (at_new _ _ _ (by simp)) | exact lit_slice2 (HF14.out.below (by go_grown)) (HF15.out.below (by go_grown)) ((at_old _ _ _ (by simp)).trans (at_new _ _ _ rfl)) | exact lit_slice2 (HF14.out.below (by go_grown)) (HF15.out.below (by go_grown)) ((at_old _ _ _ (by simp)).trans (at_new _ _ _ (by simp))))); rintro e U ⟨rfl, hv, hb⟩; have hbu := bel_of HG.out (by first | exact Below.refl _ _ | go_grown) hb; replace HG := hid (HG.out.nx hbu); replace HK := hid (HK.out.nx hbu); replace HB := hid (belNx HB.out hbu); replace HO3 := hid (HO3.out.below hbu); replace HO4 := hid (HO4.out.below hbu); replace HF := hid (HF.out.below hbu); replace HH := hid (HH.out.below hbu); replace HF14 := hid (HF14.out.below hbu); replace HO14 := hid (HO14.out.below hbu); replace HF15 := hid (HF15.out.below hbu); replace HO15 := hid (HO15.out.below hbu); replace HW := hid (belNx HW.out hbu); (try (replace HN1 := hid (HN1.out.below hbu))); (try (replace HN2 := hid (HN2.out.below hbu))); (try (replace HN3 := hid (HN3.out.below hbu))); (try (replace HN4 := hid (HN4.out.below hbu))); (try (replace HN5 := hid (HN5.out.below hbu))); (try (replace HT := hid (HT.out.below hbu))); clear hbu hb; have HN3 := hid hv; clear hv) | (go_at_call 15; (with_reducible refine (pair_lit (pair_since (m : Int) f g) ?_ ?_ ?_ ?_).mono ?_); (first | exact HN2.out | exact HN2.out.below (by go_grown)); (first | exact HN3.out | exact HN3.out.below (by go_grown)); (first | exact HG.out | exact HG.out.nx (by go_grown)); (first | exact HK.out | exact HK.out.nx (by go_grown)); rintro e U ⟨rfl, hb⟩; have hbu := bel_of HG.out (by first | exact Below.refl _ _ | go_grown) hb; replace HG := hid (HG.out.nx hbu); replace HK := hid (HK.out.nx hbu); replace HB := hid (belNx HB.out hbu); replace HO3 := hid (HO3.out.below hbu); replace HO4 := hid (HO4.out.below hbu); replace HF := hid (HF.out.below hbu); replace HH := hid (HH.out.below hbu); replace HF14 := hid (HF14.out.below hbu); replace HO14 := hid (HO14.out.below hbu); replace HF15 := hid (HF15.out.below hbu); replace HO15 := hid (HO15.out.below hbu); replace HW := hid (belNx HW.out hbu); (try (replace HN1 := hid (HN1.out.below hbu))); (try (replace HN2 := hid (HN2.out.below hbu))); (try (replace HN3 := hid (HN3.out.below hbu))); (try (replace HN4 := hid (HN4.out.below hbu))); (try (replace HN5 := hid (HN5.out.below hbu))); (try (replace HT := hid (HT.out.below hbu))); clear hbu hb) | (go_at_call 17; (with_reducible refine (one_lit 18 (opF 18 [f]) rfl ?_).mono ?_); (first | exact HF.out | exact HF.out.below (by go_grown)); rintro e U ⟨A', c', rfl, hv, hb⟩; have hbu := bel_of HG.out (by first | exact Below.refl _ _ | go_grown) hb; replace HG := hid (HG.out.nx hbu); replace HK := hid (HK.out.nx hbu); replace HB := hid (belNx HB.out hbu); replace HO3 := hid (HO3.out.below hbu); replace HO4 := hid (HO4.out.below hbu); replace HF := hid (HF.out.below hbu); replace HH := hid (HH.out.below hbu); replace HF14 := hid (HF14.out.below hbu); replace HO14 := hid (HO14.out.below hbu); replace HF15 := hid (HF15.out.below hbu); replace HO15 := hid (HO15.out.below hbu); replace HW := hid (belNx HW.out hbu); (try (replace HN1 := hid (HN1.out.below hbu))); (try (replace HN2 := hid (HN2.out.below hbu))); (try (replace HN3 := hid (HN3.out.below hbu))); (try (replace HN4 := hid (HN4.out.below hbu))); (try (replace HN5 := hid (HN5.out.below hbu))); (try (replace HT := hid (HT.out.below hbu))); clear hbu hb; have HN4 := hid hv; clear hv) | (go_at_call 18; (with_reducible refine (true_lit _).mono ?_); rintro e U ⟨rfl, hv, hb⟩; have hbu := bel_of HG.out (by first | exact Below.refl _ _ | go_grown) hb; replace HG := hid (HG.out.nx hbu); replace HK := hid (HK.out.nx hbu); replace HB := hid (belNx HB.out hbu); replace HO3 := hid (HO3.out.below hbu); replace HO4 := hid (HO4.out.below hbu); replace HF := hid (HF.out.below hbu); replace HH := hid (HH.out.below hbu); replace HF14 := hid (HF14.out.below hbu); replace HO14 := hid (HO14.out.below hbu); replace HF15 := hid (HF15.out.below hbu); replace HO15 := hid (HO15.out.below hbu); replace HW := hid (belNx HW.out hbu); (try (replace HN1 := hid (HN1.out.below hbu))); (try (replace HN2 := hid (HN2.out.below hbu))); (try (replace HN3 := hid (HN3.out.below hbu))); (try (replace HN4 := hid (HN4.out.below hbu))); (try (replace HN5 := hid (HN5.out.below hbu))); (try (replace HT := hid (HT.out.below hbu))); clear hbu hb; have HT := hid hv; clear hv) | (go_at_call 19; (with_reducible refine (late_lit (k := 2) 16 0 [opF 1 [], f] ?_ rfl).mono ?_); (first | exact lit_slice2 (HT.out.below (by go_grown)) (HF.out.below (by go_grown)) (at_new _ _ _ rfl) | exact lit_slice2 (HT.out.below (by go_grown)) (HF.out.below (by go_grown)) (at_new _ _ _ (by simp)) | exact lit_slice2 (HT.out.below (by go_grown)) (HF.out.below (by go_grown)) ((at_old _ _ _ (by simp)).trans (at_new _ _ _ rfl)) | exact lit_slice2 (HT.out.below (by go_grown)) (HF.out.below (by go_grown)) ((at_old _ _ _ (by simp)).trans (at_new _ _ _ (by simp)))); rintro e U ⟨rfl, hv, hb⟩; have hbu := bel_of HG.out (by first | exact Below.refl _ _ | go_grown) hb; replace HG := hid (HG.out.nx hbu); replace HK := hid (HK.out.nx hbu); replace HB := hid (belNx HB.out hbu); replace HO3 := hid (HO3.out.below hbu); replace HO4 := hid (HO4.out.below hbu); replace HF := hid (HF.out.below hbu); replace HH := hid (HH.out.below hbu); replace HF14 := hid (HF14.out.below hbu); replace HO14 := hid (HO14.out.below hbu); replace HF15 := hid (HF15.out.below hbu); replace HO15 := hid (HO15.out.below hbu); replace HW := hid (belNx HW.out hbu); (try (replace HN1 := hid (HN1.out.below hbu))); (try (replace HN2 := hid (HN2.out.below hbu))); (try (replace HN3 := hid (HN3.out.below hbu))); (try (replace HN4 := hid (HN4.out.below hbu))); (try (replace HN5 := hid (HN5.out.below hbu))); (try (replace HT := hid (HT.out.below hbu))); clear hbu hb; have HN5 := hid hv; clear hv) | (go_at_call 15; (with_reducible refine (pair_lit (pair_once f) ?_ ?_ ?_ ?_).mono ?_); (first | exact HN4.out | exact HN4.out.below (by go_grown)); (first | exact HN5.out | exact HN5.out.below (by go_grown)); (first | exact HG.out | exact HG.out.nx (by go_grown)); (first | exact HK.out | exact HK.out.nx (by go_grown)); rintro e U ⟨rfl, hb⟩; have hbu := bel_of HG.out (by first | exact Below.refl _ _ | go_grown) hb; replace HG := hid (HG.out.nx hbu); replace HK := hid (HK.out.nx hbu); replace HB := hid (belNx HB.out hbu); replace HO3 := hid (HO3.out.below hbu); replace HO4 := hid (HO4.out.below hbu); replace HF := hid (HF.out.below hbu); replace HH := hid (HH.out.below hbu); replace HF14 := hid (HF14.out.below hbu); replace HO14 := hid (HO14.out.below hbu); replace HF15 := hid (HF15.out.below hbu); replace HO15 := hid (HO15.out.below hbu); replace HW := hid (belNx HW.out hbu); (try (replace HN1 := hid (HN1.out.below hbu))); (try (replace HN2 := hid (HN2.out.below hbu))); (try (replace HN3 := hid (HN3.out.below hbu))); (try (replace HN4 := hid (HN4.out.below hbu))); (try (replace HN5 := hid (HN5.out.below hbu))); (try (replace HT := hid (HT.out.below hbu))); clear hbu hb))
    all_goals
      refine tail_close HTL.out ?_ ?_
      · first
          | exact ⟨rfl, (by first | exact HW.out | exact belNx HW.out (by go_grown))⟩
      · kernel_rfl
    -->>
  rintro us W ⟨hu, hbu⟩
  apply hK
  simp only [putAll, List.range', List.range'_succ, Act.put, List.setIfInBounds_toArray, List.set_cons_zero, List.set_cons_succ]
  rw [hu]
  replace HG := hid (HG.out.nx hbu)
  replace HK := hid (HK.out.nx hbu)
  replace HB := hid (belNx HB.out hbu)
  replace HO3 := hid (HO3.out.below hbu)
  replace HO4 := hid (HO4.out.below hbu)
  replace HF := hid (HF.out.below hbu)
  replace HH := hid (HH.out.below hbu)
  replace HF14 := hid (HF14.out.below hbu)
  replace HO14 := hid (HO14.out.below hbu)
  replace HF15 := hid (HF15.out.below hbu)
  replace HO15 := hid (HO15.out.below hbu)
  clear hK hu hbu
  go_wp2_with fail
  go_ret
  exact ⟨rfl, HB.out⟩
end Go.Proofs.YthdidjmmhhchmaaDoor
