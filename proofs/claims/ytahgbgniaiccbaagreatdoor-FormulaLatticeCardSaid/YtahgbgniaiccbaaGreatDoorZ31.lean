/-
  What the functions tell of values that are written out (for the law's examples); two lists of strings compared.
  Walk of signal.Valid at one signal that is written out.
  The law's examples, plain.
-/
import Derived.Test.YtahgbgniaiccbaaGreatDoorZ30
import Derived.WalkMore
set_option linter.unusedVariables false
set_option linter.unusedSimpArgs false
namespace Go.Proofs.YtahgbgniaiccbaaGreatDoor
open Go.RowKit Go.Shelf
attribute [local go_sem] cell_alloc_old

/-- The value with these fields and the slice '.slice A k c' is the formula f. -/
def VF (w : World) (o : Int) (n : ByteArray) (v b : Int) (A : Option Addr) (k c : Nat) (f : Fm) : Prop := ∃ gs, f = .mk o n v b gs ∧ k = gs.length ∧ RdA w AnyD gs A c
section
variable {w w' : World} {o : Int} {n : ByteArray} {v b : Int} {A : Option Addr} {k c : Nat} {f : Fm}
theorem VF.below (h : VF w o n v b A k c f) (hb : Below w.heap.size w w') : VF w' o n v b A k c f := let ⟨gs, h1, h2, h3⟩ := h; ⟨gs, h1, h2, h3.any hb⟩
theorem VF.rd (h : VF w o n v b A k c f) : RdF3 w AnyD (.agg #[.int .i64 o, .string n, .int .i64 v, .int .i64 b, .slice A k c]) f := by
  obtain ⟨gs, rfl, rfl, h⟩ := h
  exact ⟨A, c, rfl, h⟩
theorem RdF3.lit {D : Dom} {x : Value} {gs : List Fm} (h : RdF3 w D x f) (hf : f = .mk o n v b gs) (hk : gs.length = k) : ∃ A c, x = .agg #[.int .i64 o, .string n, .int .i64 v, .int .i64 b, .slice A k c] ∧ VF w o n v b A k c f := by
  obtain ⟨A, c, rfl, h⟩ := h
  subst hf hk
  exact ⟨A, c, rfl, _, rfl, rfl, h.mono fun _ _ _ => trivial⟩
/-- A slice literal of formulas. -/
theorem lit_slice1 {W : World} {kb : Nat} (h : VF W o n v b A k c f) (hk : W.heap[kb]? = some (.cells #[.int .i64 o, .string n, .int .i64 v, .int .i64 b, .slice A k c] 24 (0, 0))) : RdA W AnyD [f] (some ⟨kb, 0, none⟩) 1 := by
  obtain ⟨gs, rfl, rfl, h⟩ := h
  exact RdA.litAny (sl := [(A, c)]) hk rfl rfl rfl (by omega) fun i hi => by
    obtain rfl : i = 0 := by simpa using hi
    exact h
theorem lit_slice2 {W : World} {kb : Nat} {o2 : Int} {n2 : ByteArray} {v2 b2 : Int} {A2 : Option Addr} {k2 c2 : Nat} {f2 : Fm} (h : VF W o n v b A k c f) (h2 : VF W o2 n2 v2 b2 A2 k2 c2 f2)
    (hk : W.heap[kb]? = some (.cells #[.int .i64 o, .string n, .int .i64 v, .int .i64 b, .slice A k c, .int .i64 o2, .string n2, .int .i64 v2, .int .i64 b2, .slice A2 k2 c2] 24 (0, 0))) : RdA W AnyD [f, f2] (some ⟨kb, 0, none⟩) 2 := by
  obtain ⟨gs, rfl, rfl, h⟩ := h
  obtain ⟨gs2, rfl, rfl, h2⟩ := h2
  exact RdA.litAny (sl := [(A, c), (A2, c2)]) hk rfl rfl rfl (by omega) fun i hi => by
    have : i = 0 ∨ i = 1 := by simp at hi; omega
    rcases this with rfl | rfl
    · exact h
    · exact h2
theorem one_lit (p : Int) (g : Fm) (hg : g = opF p [f]) (h : VF w o n v b A k c f) :
    Calls Tryz.prog 14 #[.int .i64 p, .agg #[.int .i64 o, .string n, .int .i64 v, .int .i64 b, .slice A k c]] w fun e w' => ∃ A' c', e = .returned (.agg #[.int .i64 p, .string ⟨#[]⟩, .int .i64 0, .int .i64 0, .slice A' 1 c']) ∧ VF w' p ⟨#[]⟩ 0 0 A' 1 c' g ∧ Below w.heap.size w w' :=
  (rone_any p f _ w h.rd).mono fun e w' ⟨x, e1, h1, hb⟩ => by
    obtain ⟨A', c', e2, h2⟩ := h1.lit (o := p) (n := ⟨#[]⟩) (v := 0) (b := 0) (k := 1) (gs := [f]) rfl rfl
    exact ⟨A', c', by rw [e1, e2], by rw [hg]; exact h2, hb⟩
theorem two_lit (p : Int) (g : Fm) {o2 : Int} {n2 : ByteArray} {v2 b2 : Int} {A2 : Option Addr} {k2 c2 : Nat} {f2 : Fm} (hg : g = opF p [f, f2]) (h : VF w o n v b A k c f) (h2 : VF w o2 n2 v2 b2 A2 k2 c2 f2) :
    Calls Tryz.prog 15 #[.int .i64 p, .agg #[.int .i64 o, .string n, .int .i64 v, .int .i64 b, .slice A k c], .agg #[.int .i64 o2, .string n2, .int .i64 v2, .int .i64 b2, .slice A2 k2 c2]] w fun e w' => ∃ A' c', e = .returned (.agg #[.int .i64 p, .string ⟨#[]⟩, .int .i64 0, .int .i64 0, .slice A' 2 c']) ∧ VF w' p ⟨#[]⟩ 0 0 A' 2 c' g ∧ Below w.heap.size w w' :=
  (rtwo_any p f f2 _ _ w h.rd h2.rd).mono fun e w' ⟨x, e1, h1, hb⟩ => by
    obtain ⟨A', c', e2, h3⟩ := h1.lit (o := p) (n := ⟨#[]⟩) (v := 0) (b := 0) (k := 2) (gs := [f, f2]) rfl rfl
    exact ⟨A', c', by rw [e1, e2], by rw [hg]; exact h3, hb⟩
theorem true_lit (w : World) :
    Calls Tryz.prog 10 #[] w fun e w' => e = .returned (.agg #[.int .i64 1, .string ⟨#[]⟩, .int .i64 0, .int .i64 0, .slice none 0 0]) ∧ VF w' 1 ⟨#[]⟩ 0 0 none 0 0 (opF 1 []) ∧ Below w.heap.size w w' :=
  (rtrue_any w).mono fun e w' ⟨e1, hb⟩ => ⟨e1, ⟨[], rfl, rfl, RdA.nil _ _ _ (by omega)⟩, hb⟩
theorem is_lit (s : ByteArray) (x : Int) (w : World) :
    Calls Tryz.prog 12 #[.string s, .int .i64 x] w fun e w' => e = .returned (.agg #[.int .i64 3, .string s, .int .i64 x, .int .i64 0, .slice none 0 0]) ∧ VF w' 3 s x 0 none 0 0 (isF s x) ∧ Below w.heap.size w w' :=
  (ris_any s x w).mono fun e w' ⟨e1, hb⟩ => ⟨e1, ⟨[], rfl, rfl, RdA.nil _ _ _ (by omega)⟩, hb⟩
theorem late_lit (p x : Int) (gs : List Fm) (h : RdA w AnyD gs A c) (hk : k = gs.length) :
    Calls Tryz.prog 18 #[.int .i64 p, .int .i64 x, .slice A k c] w fun e w' => e = .returned (.agg #[.int .i64 p, .string ⟨#[]⟩, .int .i64 x, .int .i64 0, .slice A k c]) ∧ VF w' p ⟨#[]⟩ x 0 A k c (.mk p ⟨#[]⟩ x 0 gs) ∧ Below w.heap.size w w' :=
  (rlate_any p x A k c w).mono fun e w' ⟨e1, hb⟩ => ⟨e1, ⟨gs, rfl, hk, h.any hb⟩, hb⟩
theorem NewF.lit {g : Fm} {x : Value} {gs : List Fm} (h : NewF g w x w') (hf : g = .mk o n v b gs) (hk : gs.length = k) : ∃ A c, x = .agg #[.int .i64 o, .string n, .int .i64 v, .int .i64 b, .slice A k c] ∧ VF w' o n v b A k c g ∧ Below w.heap.size w w' := by
  obtain ⟨A, c, e, h2⟩ := h.2.lit hf hk
  exact ⟨A, c, e, h2, h.1⟩
theorem kernel_lit {o' : Int} {n' : ByteArray} {v' b' : Int} {gs : List Fm} {k' : Nat} {r : Int} (g : Fm) (hz : kernZ f = (g, r)) (hf : g = .mk o' n' v' b' gs) (hk' : gs.length = k') (h : VF w o n v b A k c f) (hg : GF w) (hk : GK w) :
    Calls Tryz.prog 13 #[.agg #[.int .i64 o, .string n, .int .i64 v, .int .i64 b, .slice A k c]] w fun e w' => ∃ A' c', e = .returned (.tuple #[.agg #[.int .i64 o', .string n', .int .i64 v', .int .i64 b', .slice A' k' c'], .int .i64 r]) ∧ VF w' o' n' v' b' A' k' c' g ∧ Below w.heap.size w w' :=
  (kernel_any f _ w h.rd hg hk).mono fun e w' ⟨x, e1, h1⟩ => by
    rw [hz] at e1 h1
    obtain ⟨A', c', e2, h2⟩ := h1.lit hf hk'
    exact ⟨A', c', by rw [e1, e2], h2⟩
theorem canon_lit {o' : Int} {n' : ByteArray} {v' b' : Int} {gs : List Fm} {k' : Nat} (g : Fm) (hz : canonicalZ f = g) (hf : g = .mk o' n' v' b' gs) (hk' : gs.length = k') (h : VF w o n v b A k c f) (hg : GF w) (hk : GK w) :
    Calls Tryz.prog 6 #[.agg #[.int .i64 o, .string n, .int .i64 v, .int .i64 b, .slice A k c]] w fun e w' => ∃ A' c', e = .returned (.agg #[.int .i64 o', .string n', .int .i64 v', .int .i64 b', .slice A' k' c']) ∧ VF w' o' n' v' b' A' k' c' g ∧ Below w.heap.size w w' :=
  (canonical_any f _ w h.rd hg hk).mono fun e w' ⟨x, e1, h1⟩ => by
    rw [hz] at h1
    obtain ⟨A', c', e2, h2⟩ := h1.lit hf hk'
    exact ⟨A', c', by rw [e1, e2], h2⟩
theorem not_lit {o' : Int} {n' : ByteArray} {v' b' : Int} {gs : List Fm} {k' : Nat} (g : Fm) (hz : notZ f = g) (hf : g = .mk o' n' v' b' gs) (hk' : gs.length = k') (h : VF w o n v b A k c f) (hg : GF w) (hk : GK w) :
    Calls Tryz.prog 17 #[.agg #[.int .i64 o, .string n, .int .i64 v, .int .i64 b, .slice A k c]] w fun e w' => ∃ A' c', e = .returned (.agg #[.int .i64 o', .string n', .int .i64 v', .int .i64 b', .slice A' k' c']) ∧ VF w' o' n' v' b' A' k' c' g ∧ Below w.heap.size w w' :=
  (not_any f _ w h.rd hg hk).mono fun e w' ⟨x, e1, h1⟩ => by
    rw [hz] at h1
    obtain ⟨A', c', e2, h2⟩ := h1.lit hf hk'
    exact ⟨A', c', by rw [e1, e2], h2⟩
theorem or_lit {o' : Int} {n' : ByteArray} {v' b' : Int} {gs l : List Fm} {k' : Nat} (g : Fm) (hz : connZ 6 l = g) (hf : g = .mk o' n' v' b' gs) (hk' : gs.length = k') (h : RdA w AnyD l A c) (hl : k = l.length) (hs : sizes l ≤ 1000000) (hg : GF w) (hk : GK w) :
    Calls Tryz.prog 9 #[.slice A k c] w fun e w' => ∃ A' c', e = .returned (.agg #[.int .i64 o', .string n', .int .i64 v', .int .i64 b', .slice A' k' c']) ∧ VF w' o' n' v' b' A' k' c' g ∧ Below w.heap.size w w' :=
  (or_any h hl hs hg hk).mono fun e w' ⟨x, e1, h1⟩ => by
    rw [hz] at h1
    obtain ⟨A', c', e2, h2⟩ := h1.lit hf hk'
    exact ⟨A', c', by rw [e1, e2], h2⟩
section
variable {o2 : Int} {n2 : ByteArray} {v2 b2 : Int} {A2 : Option Addr} {k2 c2 : Nat} {f2 : Fm}
theorem same_lit (r : Bool) (hr : decide (f.cmp f2 = 0) = r) (h : VF w o n v b A k c f) (h2 : VF w o2 n2 v2 b2 A2 k2 c2 f2) :
    Calls Tryz.prog 16 #[.agg #[.int .i64 o, .string n, .int .i64 v, .int .i64 b, .slice A k c], .agg #[.int .i64 o2, .string n2, .int .i64 v2, .int .i64 b2, .slice A2 k2 c2]] w fun e w' => e = .returned (.bool r) ∧ Below w.heap.size w w' := by
  rw [← hr]; exact rsame_any f f2 _ _ w h.rd h2.rd
theorem compare_lit (r : Int) (hr : f.cmp f2 = r) (h : VF w o n v b A 0 c f) (h2 : VF w o2 n2 v2 b2 A2 k2 c2 f2) :
    Calls Tryz.prog 8 #[.agg #[.int .i64 o, .string n, .int .i64 v, .int .i64 b, .slice A 0 c], .agg #[.int .i64 o2, .string n2, .int .i64 v2, .int .i64 b2, .slice A2 k2 c2]] w fun e w' => e = .returned (.int .i64 r) ∧ Below w.heap.size w w' := by
  rw [← hr]
  obtain ⟨gs, rfl, h0, ha⟩ := h
  have : gs = [] := List.eq_nil_of_length_eq_zero h0.symm
  subst this
  exact (compare_any (D := fun _ => False) (.mk o n v b []) f2 _ _ w ⟨A, c, rfl, RdA.nil _ _ _ ha.len.2.2⟩ h2.rd (by simp [Fm.size, sizes]) (.inl fun _ h => h.elim)).mono fun e w' ⟨h1, h2⟩ => ⟨h1, h2.below⟩
end
theorem valid_lit (r : Bool) (hr : validB f = r) (h : VF w o n v b A k c f) (hg : GF w) (hk : GK w) :
    Calls Tryz.prog 19 #[.agg #[.int .i64 o, .string n, .int .i64 v, .int .i64 b, .slice A k c]] w fun e w' => e = .returned (.bool r) ∧ Below w.heap.size w w' := by
  rw [← hr]; exact valid_any f _ w h.rd hg hk
theorem layered_lit (r : Bool) (hr : allB layQ f = r) (hd : f.depth ≤ 5000) (h : VF w o n v b A k c f) (hg : GF w) :
    Calls Tryz.prog 20 #[.agg #[.int .i64 o, .string n, .int .i64 v, .int .i64 b, .slice A k c]] w fun e w' => e = .returned (.bool r) ∧ Below w.heap.size w w' := by
  rw [← hr]; exact layered_any f _ w h.rd hg hd
theorem past_lit (r : Bool) (hr : allB pastQ f = r) (hd : f.depth ≤ 5000) (h : VF w o n v b A k c f) (hg : GF w) :
    Calls Tryz.prog 21 #[.agg #[.int .i64 o, .string n, .int .i64 v, .int .i64 b, .slice A k c]] w fun e w' => e = .returned (.bool r) ∧ Below w.heap.size w w' := by
  rw [← hr]; exact past_any f _ w h.rd hg hd
theorem iskernel_lit (r : Bool) (hr : kernelB f = r) (h : VF w o n v b A k c f) (hg : GF w) (hk : GK w) :
    Calls Tryz.prog 23 #[.agg #[.int .i64 o, .string n, .int .i64 v, .int .i64 b, .slice A k c]] w fun e w' => e = .returned (.bool r) ∧ Below w.heap.size w w' := by
  rw [← hr]; exact iskernel_any f _ w h.rd hg hk
theorem size_lit (r : Int) (hr : (f.size : Int) = r) (hd : f.depth ≤ 5000) (hz : f.size ≤ 1000000) (h : VF w o n v b A k c f) (hg : GF w) :
    Calls Tryz.prog 22 #[.agg #[.int .i64 o, .string n, .int .i64 v, .int .i64 b, .slice A k c]] w fun e w' => e = .returned (.int .i64 r) ∧ Below w.heap.size w w' := by
  rw [← hr]; exact size_any f _ w h.rd hg hd hz
theorem names_lit (L : List ByteArray) (hr : namesF f = L) {m : Nat} (hm : L.length = m) (hd : f.depth ≤ 5000) (hz : f.size ≤ 1000000) (h : VF w o n v b A k c f) (hg : GF w) :
    Calls Tryz.prog 25 #[.agg #[.int .i64 o, .string n, .int .i64 v, .int .i64 b, .slice A k c]] w fun e w' => ∃ A' c', e = .returned (.slice A' m c') ∧ RdS w' AnyD A' c' L ∧ Below w.heap.size w w' := by
  refine (names_any f _ w h.rd hg hd hz).mono fun e w' ⟨A', c', e1, h1, hb⟩ => ⟨A', c', by rw [e1, hr, hm], ?_, hb⟩
  rw [hr] at h1
  exact Rd.mono h1 fun _ _ _ => trivial
end
theorem RdS.get {w : World} {D : Dom} {A : Option Addr} {c k : Nat} {ss : List ByteArray} (h : RdS w D A c ss) (hk : k < ss.length) : ∃ b o x, A = some ⟨b, o, none⟩ ∧ b < w.heap.size ∧ Hid (ss.getD k ⟨#[]⟩ = x) ∧ w.cell? ⟨b, o + k, none⟩ = some (.string x) := by
  obtain ⟨b, o, e, hb, hl, hc⟩ := h.2 (by omega)
  exact ⟨b, o, _, e, hl, hid rfl, hc k _ (by simp [hk])⟩
theorem RdS.below {w w' : World} {D : Dom} {A : Option Addr} {c : Nat} {ss : List ByteArray} (h : RdS w D A c ss) (hb : Below w.heap.size w w') : RdS w' AnyD A c ss := (Rd.keep (Rd.old h) (Keeps.of_below hb fun _ h => h)).mono fun _ _ _ => trivial
theorem RdS.len {w : World} {D : Dom} {A : Option Addr} {c : Nat} {ss : List ByteArray} (h : RdS w D A c ss) : ss.length ≤ 140737488355328 := h.1.2.1
def eqSB (a b : List ByteArray) : Bool := decide (a.length = b.length) && allN a.length fun i => decide (a.getD i ⟨#[]⟩ = b.getD i ⟨#[]⟩)
theorem eqSB_iff {a b : List ByteArray} : eqSB a b = true ↔ a = b := by
  unfold eqSB
  rw [Bool.and_eq_true, decide_eq_true_eq, allN_true]
  constructor
  · rintro ⟨h1, h2⟩
    refine List.ext_getElem h1 fun i hi hj => ?_
    have := of_decide_eq_true (h2 i hi)
    simpa [List.getD, hi, hj] using this
  · rintro rfl
    exact ⟨rfl, fun j _ => decide_eq_true rfl⟩
set_option maxHeartbeats 2000000 in
theorem strings_any {D E : Dom} {w : World} {A B : Option Addr} {n m c d : Nat} {a b : List ByteArray} (h : RdS w D A c a) (h2 : RdS w E B d b) (hn : n = a.length) (hm : m = b.length) :
    Calls Tryz.prog 24 #[.slice A n c, .slice B m d] w fun e w' => e = .returned (.bool (eqSB a b)) ∧ Below w.heap.size w w' := by
  subst hn hm
  have hla := h.len
  have hlb := h2.len
  by_cases hl : a.length = b.length
  · have d1 : ((a.length : Int) != (b.length : Int)) = false := by rw [hl]; simp
    have HA := hid h
    have HB := hid h2
    have HL := hid hl
    clear h h2 hl
    go_enter Tryz.func24, Tryz.ntmps24
    go_wp2_with fail
    go_loopw [5] (fun r wr => ∃ i : Nat, i ≤ a.length ∧ r = .int .i64 (i : Int) ∧ Drawn w wr ∧ SoFar i (fun i => decide (a.getD i ⟨#[]⟩ = b.getD i ⟨#[]⟩))) (fun r _ => a.length - (intOf r).toNat)
    case atStart => exact ⟨0, Nat.zero_le _, rfl, Drawn.refl _, SoFar.zero _⟩
    case round =>
      obtain ⟨i, hi, rfl, hdr, hall⟩ := hrel
      have HDR := hid hdr
      have HALL := hid hall
      clear hall hdr
      by_cases hlt : i < a.length
      · have hii : (i : Int) < a.length := by omega
        have hij : (i : Int) < b.length := by have := HL.out; omega
        obtain ⟨b1, o1, x, rfl, l1, HX, q1⟩ := (HA.out.below (HDR.out.below _)).get hlt
        obtain ⟨b2, o2, y, rfl, l2, HY, q2⟩ := (HB.out.below (HDR.out.below _)).get (k := i) (by have := HL.out; omega)
        have HXX := hid HX.out
        have HYY := hid HY.out
        clear HX HY
        by_cases hxy : x = y
        · have d2 : (x.toList == y.toList) = true := bytes_ext.2 hxy
          have HE := hid (show decide (a.getD i ⟨#[]⟩ = b.getD i ⟨#[]⟩) = true from decide_eq_true (by rw [HXX.out, HYY.out]; exact hxy))
          clear hxy
          go_upto_region 6 with (fail)
          go_quiet (fail)
          go_wp2_with fail
          go_roundw
          case rel => exact ⟨i + 1, by omega, by go_num, HDR.out.drewN _, HALL.out.succ HE.out⟩
          case measure => simp [intOf]; omega
        · have d2 : (x.toList == y.toList) = false := by
            cases hb : (x.toList == y.toList)
            · rfl
            · exact absurd (bytes_ext.1 hb) hxy
          have HE := hid (show eqSB a b = false by
            cases hq : eqSB a b
            · rfl
            · have := eqSB_iff.1 hq
              subst this
              exact absurd (HXX.out.symm.trans HYY.out) hxy)
          clear hxy
          go_upto_region 6 with (fail)
          go_quiet (fail)
          go_wp2_with fail
          go_ret
          exact ⟨ret_bool HE.out.symm, (HDR.out.drewN _).below _⟩
      · have hii : ¬ (i : Int) < a.length := by omega
        have HE := hid (show eqSB a b = true by
          unfold eqSB
          rw [HALL.out.all (by omega), decide_eq_true HL.out]; rfl)
        go_wp2_with fail
        go_ret
        exact ⟨ret_bool HE.out.symm, HDR.out.below _⟩
  · have d1 : ((a.length : Int) != (b.length : Int)) = true := by simp; omega
    have HE := hid (show eqSB a b = false by unfold eqSB; rw [decide_eq_false hl]; rfl)
    clear h h2 hl
    go_enter Tryz.func24, Tryz.ntmps24
    go_wp2_with fail
    go_ret
    exact ⟨ret_bool HE.out.symm, Below.refl _ _⟩
end Go.Proofs.YtahgbgniaiccbaaGreatDoor
set_option linter.unusedVariables false
set_option linter.unusedSimpArgs false
namespace Go.Proofs.YtahgbgniaiccbaaGreatDoor
open Go.RowKit Go.Shelf
attribute [local go_sem] cell_alloc_old

set_option maxRecDepth 100000 in
set_option maxHeartbeats 4000000 in
theorem sig_lit (w : World) (kb : Nat) (s : ByteArray) (q : Bool) (hs : nameB s = true) (h : w.heap[kb]? = some (.cells #[.string s, .bool q, .int .i64 2] 46 (0, 0))) (hk : GK w) :
    Calls Tryz.prog 26 #[.slice (some ⟨kb, 0, none⟩) 1 1] w fun e w' => e = .returned (.bool true) ∧ Below w.heap.size w w' := by
  have HH := hid h
  have HK := hid hk
  have HS := hid hs
  have hkl := lt_of_block h
  clear h hk hs
  go_enter Tryz.func26, Tryz.ntmps26
  go_wp2_with fail
  go_step3
  go_wp2_with fail
  go_step3
  go_upto_region 5 with (fail)
  refine wp_gen fun W hW => ?_
  have HB := hid (show Below w.heap.size w W by rw [hW]; go_grown)
  clear hW
  go_wp2_with fail
  go_loopw [3, 4, 17] (fun p r q wr => ∃ i : Nat, i ≤ 1 ∧ p = .bool true ∧ q = .int .i64 (i : Int) ∧ r = .int .i64 (if i = 0 then 1 else 2) ∧ Below w.heap.size w wr) (fun _ _ q _ => 1 - (intOf q).toNat)
  case atStart => exact ⟨0, by omega, rfl, rfl, rfl, HB.out⟩
  case round =>
    obtain ⟨i, hi, rfl, rfl, rfl, hb⟩ := hrel
    have HBL := hid hb
    have hh := (hb.block _ hkl).trans HH.out
    have HHr := hid hh
    have x0 := block_cell hh (i := 0) rfl
    have x2 := block_cell hh (i := 2) rfl
    have hkr := lt_of_block hh
    have HN := hid (name_any s wr (HK.out.below hb HK.out.pos))
    rw [HS.out] at HN
    clear hh hb
    have h01 : i = 0 ∨ i = 1 := by omega
    rcases h01 with rfl | rfl
    · simp only [if_true]
      go_wp2_with (go_at_call 43; (with_reducible refine HN.out.mono ?_); rintro e w2 ⟨rfl, hb2⟩; have h2 := (hb2.block _ hkr).trans HHr.out; have y2 := block_cell h2 (i := 2) rfl; have y0 := block_cell h2 (i := 0) rfl; have hk2 := lt_of_block h2; have HB2 := hid (HBL.out.trans (hb2.mono HBL.out.size)); clear h2 hb2)
      go_loopw [3, 44] (fun p q wr => p = .bool true ∧ q = .int .i64 0 ∧ Below w.heap.size w wr) (fun _ _ _ => 0)
      case atStart => exact ⟨rfl, rfl, HB2.out⟩
      case round =>
        obtain ⟨rfl, rfl, hb3⟩ := hrel
        have HB3 := hid hb3
        have h3 := (hb3.block _ hkl).trans HH.out
        have z2 := block_cell h3 (i := 2) rfl
        have hk3 := lt_of_block h3
        clear h3 hb3
        go_wp2_with fail
        go_roundw
        case rel => exact ⟨1, by omega, rfl, by go_num, by go_num, HB3.out⟩
        case measure => simp [intOf]
    · simp only [if_neg (show ¬ (1 : Nat) = 0 by omega)]
      clear x0 x2
      go_wp2_with fail
      try rw [Exit.noGoto_ret]
      go_ret
      exact ⟨rfl, HBL.out⟩
end Go.Proofs.YtahgbgniaiccbaaGreatDoor
set_option linter.unusedVariables false
set_option linter.unusedSimpArgs false
namespace Go.Proofs.YtahgbgniaiccbaaGreatDoor

def sA : ByteArray := ⟨#[97]⟩
def sB : ByteArray := ⟨#[98]⟩
def exA : Fm := isF sA 1
def exB : Fm := isF sB 1
theorem name_a : nameB sA = true := by unfold nameB; simp only [ByteArray.toList_eq]; decide
theorem name_b : nameB sB = true := by unfold nameB; simp only [ByteArray.toList_eq]; decide
theorem shp_unnamed {o v b : Int} {l : List Fm} (h : (formZ o).named = false) : shapedB (.mk o ⟨#[]⟩ v b l) = (isOp o && decide ((formZ o).least ≤ l.length) && decide (l.length ≤ (formZ o).most) && decide (0 ≤ v) && decide (v ≤ (formZ o).val) && decide (0 ≤ b) && decide (b ≤ (formZ o).bound)) := by
  unfold shapedB
  show (_ && nameOk (formZ o) ⟨#[]⟩) = _
  rw [nameOk_empty h, Bool.and_true]
  rfl
theorem shp_a : shapedB exA = true := by
  unfold shapedB
  show (_ && nameOk (formZ 3) sA) = _
  unfold nameOk
  show (_ && nameB sA) = _
  rw [name_a]; rfl
theorem shp_b : shapedB exB = true := by
  unfold shapedB
  show (_ && nameOk (formZ 3) sB) = _
  unfold nameOk
  show (_ && nameB sB) = _
  rw [name_b]; rfl
theorem allI_one {q : Fm × Bool → Bool} {ins : Bool} {o v b : Int} {n : ByteArray} {f : Fm} (h : q (.mk o n v b [f], ins) = true) (hf : allI q (ins || (formZ o).past) f) : allI q ins (.mk o n v b [f]) := allI_iff.2 ⟨h, fun g hg => by
  have : g = f := List.mem_singleton.1 hg
  rw [this]; exact hf⟩
theorem allI_two {q : Fm × Bool → Bool} {ins : Bool} {o v b : Int} {n : ByteArray} {f f2 : Fm} (h : q (.mk o n v b [f, f2], ins) = true) (hf : allI q (ins || (formZ o).past) f) (hf2 : allI q (ins || (formZ o).past) f2) : allI q ins (.mk o n v b [f, f2]) := allI_iff.2 ⟨h, fun g hg => by
  have hg : g ∈ [f, f2] := hg
  simp at hg
  rcases hg with rfl | rfl
  · exact hf
  · exact hf2⟩
theorem allI_none {q : Fm × Bool → Bool} {ins : Bool} {o v b : Int} {n : ByteArray} (h : q (.mk o n v b [], ins) = true) : allI q ins (.mk o n v b []) := allI_iff.2 ⟨h, fun g hg => by cases hg⟩
theorem shpA (ins : Bool) : allI shpQ ins exA := allI_none shp_a
theorem shpB (ins : Bool) : allI shpQ ins exB := allI_none shp_b
theorem shp1 {ins : Bool} {o v b : Int} {f : Fm} (h : (formZ o).named = false) (hs : (isOp o && decide ((formZ o).least ≤ 1) && decide (1 ≤ (formZ o).most) && decide (0 ≤ v) && decide (v ≤ (formZ o).val) && decide (0 ≤ b) && decide (b ≤ (formZ o).bound)) = true) (hf : allI shpQ (ins || (formZ o).past) f) : allI shpQ ins (.mk o ⟨#[]⟩ v b [f]) :=
  allI_one (by show shapedB _ = true; rw [shp_unnamed h]; exact hs) hf
theorem shp2 {ins : Bool} {o v b : Int} {f f2 : Fm} (h : (formZ o).named = false) (hs : (isOp o && decide ((formZ o).least ≤ 2) && decide (2 ≤ (formZ o).most) && decide (0 ≤ v) && decide (v ≤ (formZ o).val) && decide (0 ≤ b) && decide (b ≤ (formZ o).bound)) = true) (hf : allI shpQ (ins || (formZ o).past) f) (hf2 : allI shpQ (ins || (formZ o).past) f2) : allI shpQ ins (.mk o ⟨#[]⟩ v b [f, f2]) :=
  allI_two (by show shapedB _ = true; rw [shp_unnamed h]; exact hs) hf hf2
theorem kernZ_ex {f g : Fm} (h1 : allI shpQ false f) (h0 : fitsB f 60 20 = true) (h2 : layB f = true) (h3 : fitsB g 60 20 = true) (hk : kf false f = g) : kernZ f = (g, 0) := by
  have hv : validB f = true := by unfold validB; rw [h0]; exact h1
  unfold kernZ
  rw [hv, h2, hk, h3]; rfl
def exX : Fm := opF 9 [opF 1 [], opF 4 [exA]]
def exY : Fm := opF 6 [exA, opF 8 [opF 6 [exA, opF 8 [exA]]]]
theorem kern_x : kernZ (opF 4 [opF 12 [exA]]) = (exX, 0) := kernZ_ex (shp1 rfl rfl (shp1 rfl rfl (shpA _))) rfl rfl rfl rfl
theorem kern_y : kernZ (.mk 13 ⟨#[]⟩ 0 2 [exA]) = (exY, 0) := kernZ_ex (shp1 rfl rfl (shpA _)) rfl rfl rfl rfl
theorem kern_g : kernZ (opF 11 [zeroF]) = (zeroF, 30) := by
  have hv : validB (opF 11 [zeroF]) = false := by
    cases h : validB (opF 11 [zeroF])
    · rfl
    · unfold validB at h
      rw [Bool.and_eq_true] at h
      have := ((allI_iff.1 (show allI shpQ false (opF 11 [zeroF]) from h.2)).2 zeroF (List.mem_singleton.2 rfl))
      have := (shp_out (allI_iff.1 this).1).1
      cases this
  unfold kernZ
  rw [hv]; rfl
theorem kern_h : kernZ (.mk 13 ⟨#[]⟩ 0 9 [opF 11 [opF 5 [exA, exB]]]) = (zeroF, 2) := by
  have hv : validB (.mk 13 ⟨#[]⟩ 0 9 [opF 11 [opF 5 [exA, exB]]]) = true := by
    unfold validB
    rw [show fitsB (.mk 13 ⟨#[]⟩ 0 9 [opF 11 [opF 5 [exA, exB]]]) 60 20 = true from rfl]
    exact shp1 rfl rfl (shp1 rfl rfl (shp2 rfl rfl (shpA _) (shpB _)))
  unfold kernZ
  rw [hv, show layB (.mk 13 ⟨#[]⟩ 0 9 [opF 11 [opF 5 [exA, exB]]]) = true from rfl, show fitsB (kf false (.mk 13 ⟨#[]⟩ 0 9 [opF 11 [opF 5 [exA, exB]]])) 60 20 = false from by decide]
  rfl
theorem cmp_ab : exA.cmp exB = -1 := by
  unfold exA exB isF
  simp only [Fm.cmp, cmps]
  unfold cmpS
  simp only [ByteArray.toList_eq]
  decide
theorem bareA (ins : Bool) : allI bareQ ins exA := allI_none (bare_mk rfl shp_a (fun h => (by cases h)) (fun h => (by cases h)))
theorem bareB (ins : Bool) : allI bareQ ins exB := allI_none (bare_mk rfl shp_b (fun h => (by cases h)) (fun h => (by cases h)))
theorem bareN (ins : Bool) : allI bareQ ins (opF 4 [exA]) := allI_one (bare_mk rfl (by show shapedB (.mk 4 ⟨#[]⟩ 0 0 [exA]) = true; rw [shp_unnamed rfl]; rfl) (fun h => (by cases h)) (fun _ => rfl)) (bareA _)
theorem bareAnd {ins : Bool} {f g : Fm} (hf : allI bareQ ins f) (hg : allI bareQ ins g) : allI bareQ ins (opF 5 [f, g]) :=
  allI_two (bare_mk rfl (shp_unnamed (o := 5) rfl) (fun h => (by cases h)) (fun h => (by cases h))) (by rw [show (formZ 5).past = false from rfl, Bool.or_false]; exact hf) (by rw [show (formZ 5).past = false from rfl, Bool.or_false]; exact hg)
def exC : Fm := opF 5 [exA, exB]
theorem can_is (s : ByteArray) (v : Int) : Can (isF s v) := .mk _ ⟨rfl, fun h => (by rcases h with h | h <;> cases h), fun h => (by rcases h with h | h <;> cases h), fun h => (by cases h), fun h => (by cases h), fun h => (by cases h)⟩ fun g hg => by cases hg
theorem can_c : CanNode exC := ⟨rfl, fun h => (by rcases h with h | h <;> cases h), fun _ => ⟨List.pairwise_cons.2 ⟨fun b hb => by
    have : b = exB := List.mem_singleton.1 hb
    rw [this, cmp_ab]; decide, List.pairwise_singleton _ _⟩, by decide, rfl, rfl, rfl, fun g hg => by
    have hg : g ∈ [exA, exB] := hg
    simp at hg
    rcases hg with rfl | rfl <;> decide⟩, fun h => (by cases h), fun h => (by cases h), fun h => (by cases h)⟩
theorem joinZ_unit {op : Int} (hop : op = 5 ∨ op = 6) {c : Fm} (h : Can c) : joinZ op [c, opF (unitZ op) []] = c := by
  conv => rhs; rw [← joinZ_one hop h]
  refine joinZ_congr ⟨?_, ?_⟩ fun x => ?_
  · rintro ⟨y, hy, e⟩
    simp at hy
    rcases hy with rfl | rfl
    · exact ⟨_, by simp, e⟩
    · exact absurd e (unit_zero op)
  · rintro ⟨y, hy, e⟩
    simp at hy
    subst hy
    exact ⟨_, by simp, e⟩
  · rw [flatZ_one, flatZ_one, flatZ_one]
    have : partZ op (opF (unitZ op) []) = [] := by
      unfold partZ
      rw [if_neg (show ¬ (opF (unitZ op) []).op = op by rcases hop with rfl | rfl <;> decide), if_pos (show (opF (unitZ op) []).op = unitZ op from rfl)]
    rw [this]
    simp
theorem canon_c : canonicalZ (opF 5 [opF 5 [exB, opF 5 [exA, exB]], opF 1 []]) = exC := by
  have hl : looseB (opF 5 [opF 5 [exB, opF 5 [exA, exB]], opF 1 []]) = true := loose_of (by decide) (by decide) (bareAnd (bareAnd (bareB _) (bareAnd (bareA _) (bareB _))) (allI_leaf (.inl rfl)))
  unfold canonicalZ
  rw [if_pos hl, canonZ_op (.inl rfl)]
  have e1 : canonZ (opF 5 [exA, exB]) = exC := by
    rw [canonZ_op (.inl rfl)]
    show joinZ 5 [canonZ exA, canonZ exB] = _
    rw [show canonZ exA = exA from (can_is _ _).canonZ, show canonZ exB = exB from (can_is _ _).canonZ]
    exact joinZ_self (.inl rfl) can_c rfl
  have hc : Can exC := .mk _ can_c fun g hg => by
    have hg : g ∈ [exA, exB] := hg
    simp at hg
    rcases hg with rfl | rfl
    · exact can_is _ _
    · exact can_is _ _
  have e2 : canonZ (opF 5 [exB, opF 5 [exA, exB]]) = exC := by
    rw [canonZ_op (.inl rfl)]
    show joinZ 5 [canonZ exB, canonZ (opF 5 [exA, exB])] = _
    rw [e1, show canonZ exB = exB from (can_is _ _).canonZ]
    have h0 : joinZ 5 [exA, exB] = exC := joinZ_self (.inl rfl) can_c rfl
    rw [joinZ_perm (m := [exC, exB]) fun x => by simp [or_comm], ← h0, joinZ_nest (.inl rfl) fun g hg => by
      simp at hg
      rcases hg with rfl | rfl
      · exact can_is _ _
      · exact can_is _ _]
    exact joinZ_perm fun x => by simp
  show joinZ 5 [canonZ (opF 5 [exB, opF 5 [exA, exB]]), canonZ (opF 1 [])] = _
  rw [e2, canonZ_leaf (.inl rfl)]
  exact joinZ_unit (.inl rfl) hc
theorem or_d : connZ 6 [exA, opF 4 [exA]] = opF 1 [] := by
  have hn : canonZ (opF 4 [exA]) = opF 4 [exA] := by
    rw [canonZ_eq]
    show canO 4 _ _ [canonZ exA] = _
    rw [show canonZ exA = exA from (can_is _ _).canonZ]; rfl
  have hj : joinZ 6 ([exA, opF 4 [exA]].map canonZ) = opF 1 [] := by
    show joinZ 6 [canonZ exA, canonZ (opF 4 [exA])] = _
    rw [hn, show canonZ exA = exA from (can_is _ _).canonZ]
    unfold joinZ
    rw [if_neg (by decide)]
    unfold setZ
    rw [if_pos]
    · rfl
    · exact oppB_iff.2 ⟨opF 4 [exA], (setF_mem _ _).2 (by show _ ∈ [exA, opF 4 [exA]]; simp), rfl, (setF_mem _ _).2 (by show exA ∈ [exA, opF 4 [exA]]; simp)⟩
  unfold connZ
  rw [hj, if_pos, if_pos]
  · exact loose_of (by decide) (by decide) (allI_leaf (.inl rfl))
  · rw [List.all_eq_true]
    intro g hg
    simp at hg
    rcases hg with rfl | rfl
    · exact loose_of (by decide) (by decide) (bareA _)
    · exact loose_of (by decide) (by decide) (bareN _)
def exN : Fm := .mk 15 ⟨#[]⟩ 1 0 [opF 4 [exA]]
theorem not_n : notZ (.mk 15 ⟨#[]⟩ 0 0 [exA]) = exN := by
  have hl : looseB (.mk 15 ⟨#[]⟩ 0 0 [exA]) = true := loose_of (by decide) (by decide) (allI_one (bare_mk rfl (by rw [shp_unnamed rfl]; rfl) (fun h => (by cases h)) (fun h => (by cases h))) (bareA _))
  unfold notZ
  rw [hl, show fitsB (kf true (.mk 15 ⟨#[]⟩ 0 0 [exA])) 400 60 = true from rfl]
  rfl
def exP : Fm := .mk 16 ⟨#[]⟩ 0 0 [exA, opF 8 [exB]]
theorem valid_p : validB exP = true := by
  unfold validB
  rw [show fitsB exP 60 20 = true from rfl]
  exact shp2 rfl rfl (shpA _) (shp1 rfl rfl (shpB _))
theorem lay_p : allB layQ exP = false := rfl
theorem past_p : allB pastQ exP = false := rfl
theorem kernel_x : kernelB exX = true := kernel_of (by decide) (by decide) (allI_two (bare_mk rfl (by rw [shp_unnamed rfl]; rfl) (fun _ => rfl) (fun h => (by cases h))) (allI_leaf (.inl rfl)) (bareN _))
theorem kernel_nt : kernelB (opF 4 [opF 1 []]) = false := by
  cases h : kernelB (opF 4 [opF 1 []])
  · rfl
  · have := (bareQ_parts (allI_iff.1 (kernel_out h).2.2).1).2.2.2 rfl
    cases this
theorem names_ex : namesF (opF 7 [exB, opF 6 [exA, exB]]) = [sA, sB] := by
  refine (namesF_asc _).ext ?_ fun x => ?_
  · refine List.pairwise_cons.2 ⟨fun b hb => ?_, List.pairwise_singleton _ _⟩
    have : b = sB := List.mem_singleton.1 hb
    rw [this]
    unfold ltS
    simp only [ByteArray.toList_eq]
    decide
  · rw [namesF_mem]
    have : namesPre (opF 7 [exB, opF 6 [exA, exB]]) = [sB, sA, sB] := rfl
    rw [this]
    simp only [List.mem_cons, List.not_mem_nil, or_false]
    constructor
    · rintro (h | h | h)
      · exact .inr h
      · exact .inl h
      · exact .inr h
    · rintro (h | h)
      · exact .inr (.inl h)
      · exact .inl h
end Go.Proofs.YtahgbgniaiccbaaGreatDoor
