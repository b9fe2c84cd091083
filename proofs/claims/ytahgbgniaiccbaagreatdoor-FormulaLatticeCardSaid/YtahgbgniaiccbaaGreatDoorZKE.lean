/-
  What the functions tell of values that lie in new memory (VC), for the laws of the second seat of layer 3.
-/
import Derived.Test.YtahgbgniaiccbaaGreatDoorZLJ
import Derived.Test.YtahgbgniaiccbaaGreatDoorZKL
import Derived.Test.YtahgbgniaiccbaaGreatDoorZKD
set_option linter.unusedVariables false
set_option linter.unusedSimpArgs false
namespace Go.Proofs.YtahgbgniaiccbaaGreatDoor
open Go.RowKit Go.Shelf
attribute [local go_sem] cell_alloc_old

/-- As VF, and the arguments lie in blocks that are no string's memory. -/
def VC (w : World) (o : Int) (n : ByteArray) (v b : Int) (A : Option Addr) (k c : Nat) (f : Fm) : Prop := ∃ gs, f = .mk o n v b gs ∧ k = gs.length ∧ RdA w (Cl w) gs A c
theorem VF.of {w : World} {D : Dom} {f : Fm} {A : Option Addr} {c : Nat} (h : RdA w D f.args A c) : VF w f.op f.name f.val f.bound A f.args.length c f := ⟨f.args, f.eta.symm, rfl, h.mono fun _ _ _ => trivial⟩
section
variable {w w' : World} {o : Int} {n : ByteArray} {v b : Int} {A : Option Addr} {k c : Nat} {f : Fm}
theorem VC.vf (h : VC w o n v b A k c f) : VF w o n v b A k c f := let ⟨gs, h1, h2, h3⟩ := h; ⟨gs, h1, h2, h3.mono fun _ _ _ => trivial⟩
theorem VC.below (h : VC w o n v b A k c f) (hb : Below w.heap.size w w') : VC w' o n v b A k c f := by
  obtain ⟨gs, h1, h2, h3⟩ := h
  refine ⟨gs, h1, h2, ((h3.mono (E := fun x => Cl w x ∧ x < w.heap.size) fun _ h hl => ⟨h, hl⟩).keep (Keeps.of_below hb fun _ h => h.2)).mono fun x h _ => ?_⟩
  obtain ⟨⟨cs, t, h⟩, hl⟩ := h
  exact ⟨cs, t, (hb.block x hl).trans h⟩
theorem VC.rd (h : VC w o n v b A k c f) : RdF3 w (Cl w) (.agg #[.int .i64 o, .string n, .int .i64 v, .int .i64 b, .slice A k c]) f := by
  obtain ⟨gs, rfl, rfl, h⟩ := h
  exact ⟨A, c, rfl, h⟩
theorem NewF.litc {g : Fm} {x : Value} {m : Nat} (h : NewF g w x w') (hm : g.args.length = m) : ∃ A c, x = .agg #[.int .i64 g.op, .string g.name, .int .i64 g.val, .int .i64 g.bound, .slice A m c] ∧ VC w' g.op g.name g.val g.bound A m c g ∧ Below w.heap.size w w' := by
  subst hm
  obtain ⟨hb, A, c, e, h2⟩ := h
  exact ⟨A, c, e, ⟨g.args, g.eta.symm, rfl, h2.mono fun _ h _ => h.2⟩, hb⟩
theorem kernel_litc (g : Fm) (r : Int) (hz : kernZ f = (g, r)) (h : VF w o n v b A k c f) (hg : GF w) (hk : GK w) :
    Calls Tryz.prog 13 #[.agg #[.int .i64 o, .string n, .int .i64 v, .int .i64 b, .slice A k c]] w fun e w' => ∃ A' c', e = .returned (.tuple #[.agg #[.int .i64 g.op, .string g.name, .int .i64 g.val, .int .i64 g.bound, .slice A' g.args.length c'], .int .i64 r]) ∧ VC w' g.op g.name g.val g.bound A' g.args.length c' g ∧ Below w.heap.size w w' :=
  (kernel_any f _ w h.rd hg hk).mono fun e w' ⟨x, e1, h1⟩ => by
    rw [hz] at e1 h1
    obtain ⟨A', c', e2, h2⟩ := h1.litc rfl
    exact ⟨A', c', by rw [e1, e2], h2⟩
theorem not_litc (g : Fm) (hz : notZ f = g) (h : VF w o n v b A k c f) (hg : GF w) (hk : GK w) :
    Calls Tryz.prog 17 #[.agg #[.int .i64 o, .string n, .int .i64 v, .int .i64 b, .slice A k c]] w fun e w' => ∃ A' c', e = .returned (.agg #[.int .i64 g.op, .string g.name, .int .i64 g.val, .int .i64 g.bound, .slice A' g.args.length c']) ∧ VC w' g.op g.name g.val g.bound A' g.args.length c' g ∧ Below w.heap.size w w' :=
  (not_any f _ w h.rd hg hk).mono fun e w' ⟨x, e1, h1⟩ => by
    rw [hz] at h1
    obtain ⟨A', c', e2, h2⟩ := h1.litc rfl
    exact ⟨A', c', by rw [e1, e2], h2⟩
theorem rloose_lit (r : Bool) (hr : looseB f = r) (h : VF w o n v b A k c f) :
    Calls Tryz.prog 29 #[.agg #[.int .i64 o, .string n, .int .i64 v, .int .i64 b, .slice A k c]] w fun e w' => e = .returned (.bool r) ∧ Below w.heap.size w w' :=
  rloose_r r (by rw [← hr, looseB_ref]; rfl) h.rd
theorem rlay_lit (r : Bool) (hr : layB f = r) (h : VF w o n v b A k c f) :
    Calls Tryz.prog 47 #[.agg #[.int .i64 o, .string n, .int .i64 v, .int .i64 b, .slice A k c]] w fun e w' => e = .returned (.bool r) ∧ Below w.heap.size w w' :=
  rlay_r r (by rw [← hr]; rfl) h.rd
theorem small_lit (m : Nat) (l : Int) (hl : l = (m : Int)) (hm : m ≤ 1000000) (r : Bool) (hr : decide (f.size ≤ m) = r) (h : VF w o n v b A k c f) :
    Calls Tryz.prog 27 #[.agg #[.int .i64 o, .string n, .int .i64 v, .int .i64 b, .slice A k c], .int .i64 l] w fun e w' => e = .returned (.bool r) ∧ Below w.heap.size w w' :=
  rsmall_r m l hl hm r hr h.rd
section
variable {o2 : Int} {n2 : ByteArray} {v2 b2 : Int} {A2 : Option Addr} {k2 c2 : Nat} {f2 : Fm}
theorem comparec_lit (r : Int) (hr : f.cmp f2 = r) (hz : f.size ≤ 1000000) (h : VC w o n v b A k c f) (h2 : VF w o2 n2 v2 b2 A2 k2 c2 f2) :
    Calls Tryz.prog 8 #[.agg #[.int .i64 o, .string n, .int .i64 v, .int .i64 b, .slice A k c], .agg #[.int .i64 o2, .string n2, .int .i64 v2, .int .i64 b2, .slice A2 k2 c2]] w fun e w' => e = .returned (.int .i64 r) ∧ Below w.heap.size w w' := by
  rw [← hr]
  exact (compare_any f f2 _ _ w h.rd h2.rd hz (.inl fun _ h => h)).mono fun e w' ⟨h1, h2⟩ => ⟨h1, h2.below⟩
theorem comparec2_lit (r : Int) (hr : f.cmp f2 = r) (hz : f.size ≤ 1000000) (h : VF w o n v b A k c f) (h2 : VC w o2 n2 v2 b2 A2 k2 c2 f2) :
    Calls Tryz.prog 8 #[.agg #[.int .i64 o, .string n, .int .i64 v, .int .i64 b, .slice A k c], .agg #[.int .i64 o2, .string n2, .int .i64 v2, .int .i64 b2, .slice A2 k2 c2]] w fun e w' => e = .returned (.int .i64 r) ∧ Below w.heap.size w w' := by
  rw [← hr]
  exact (compare_any f f2 _ _ w h.rd h2.rd hz (.inr fun _ h => h)).mono fun e w' ⟨h1, h2⟩ => ⟨h1, h2.below⟩
end
end
theorem kernZ_size (f : Fm) : (kernZ f).1.size ≤ 1000000 := by
  unfold kernZ
  split
  · split
    · rename_i h
      have := (fits_true.1 h).1
      simp only
      omega
    · decide
  · decide
theorem notZ_size (f : Fm) : (notZ f).size ≤ 1000000 := by
  unfold notZ
  split
  · rename_i h
    rw [Bool.and_eq_true, fits_true] at h
    omega
  · decide
end Go.Proofs.YtahgbgniaiccbaaGreatDoor
