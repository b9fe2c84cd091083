/-
  What the functions tell of values that are written out (for the law's examples).
  The examples of layer 7's head, plain.
-/
import Derived.Test.YtdakdpfofgkjoaaGreatDoorZ39
import Derived.Test.YtdakdpfofgkjoaaGreatDoorZ21
set_option linter.unusedVariables false
set_option linter.unusedSimpArgs false
namespace Go.Proofs.YtdakdpfofgkjoaaGreatDoor
open Go.RowKit Go.Shelf
attribute [local go_sem] cell_alloc_old buildF_op buildF_o buildF_is

theorem GF.nx {w w' : World} (h : GF w) (hb : Below w.heap.size w w') : GF w' := h.below hb h.pos
theorem GK.nx {w w' : World} (h : GK w) (hb : Below w.heap.size w w') : GK w' := h.below hb h.pos
theorem belNx {w w' w'' : World} (h : Below w.heap.size w w') (hb : Below w'.heap.size w' w'') : Below w.heap.size w w'' := h.trans (hb.mono h.size)
theorem bel_of {u cur u' : World} (_ : GF u) (h1 : Below u.heap.size u cur) (h2 : Below cur.heap.size cur u') : Below u.heap.size u u' := belNx h1 h2
theorem nx_of {w u cur u' : World} (_ : Below w.heap.size w u) (h1 : Below u.heap.size u cur) (h2 : Below cur.heap.size cur u') : Below u.heap.size u u' := belNx h1 h2
theorem RdG.below {w w' : World} {D : Dom} {A : Option Addr} {c : Nat} {l : List Sg} (h : RdG w D A c l) (hb : Below w.heap.size w w') : RdG w' AnyD A c l := h.any hb
theorem RdR.below {w w' : World} {D : Dom} {A : Option Addr} {c : Nat} {l : List Rq} (h : RdR w D A c l) (hb : Below w.heap.size w w') : RdR w' AnyD A c l := h.any hb
/-- The value with these fields and the slice '.slice A k c' is the formula f. -/
def VF (w : World) (o : Int) (n : ByteArray) (v b : Int) (A : Option Addr) (k c : Nat) (f : Fm) : Prop := ∃ gs, f = .mk o n v b gs ∧ k = gs.length ∧ RdA w AnyD gs A c
theorem VF.of {w : World} {D : Dom} {f : Fm} {A : Option Addr} {c : Nat} (h : RdA w D f.args A c) : VF w f.op f.name f.val f.bound A f.args.length c f := ⟨f.args, f.eta.symm, rfl, h.mono fun _ _ _ => trivial⟩
section
variable {w w' : World} {o : Int} {n : ByteArray} {v b : Int} {A : Option Addr} {k c : Nat} {f : Fm}
theorem VF.below (h : VF w o n v b A k c f) (hb : Below w.heap.size w w') : VF w' o n v b A k c f := let ⟨gs, h1, h2, h3⟩ := h; ⟨gs, h1, h2, h3.any hb⟩
theorem VF.rd (h : VF w o n v b A k c f) : RdF3 w AnyD (.agg #[.int .i64 o, .string n, .int .i64 v, .int .i64 b, .slice A k c]) f := by
  obtain ⟨gs, rfl, rfl, h⟩ := h
  exact ⟨A, c, rfl, h⟩
theorem lit_slice1 {W : World} {kb : Nat} (h : VF W o n v b A k c f) (hk : W.heap[kb]? = some (.cells #[.int .i64 o, .string n, .int .i64 v, .int .i64 b, .slice A k c] 28 (0, 0))) : RdA W AnyD [f] (some ⟨kb, 0, none⟩) 1 := by
  obtain ⟨gs, rfl, rfl, h⟩ := h
  exact RdA.litAny (sl := [(A, c)]) hk rfl rfl rfl (by omega) fun i hi => by
    obtain rfl : i = 0 := by simpa using hi
    exact h
theorem lit_slice2 {W : World} {kb : Nat} {o2 : Int} {n2 : ByteArray} {v2 b2 : Int} {A2 : Option Addr} {k2 c2 : Nat} {f2 : Fm} (h : VF W o n v b A k c f) (h2 : VF W o2 n2 v2 b2 A2 k2 c2 f2)
    (hk : W.heap[kb]? = some (.cells #[.int .i64 o, .string n, .int .i64 v, .int .i64 b, .slice A k c, .int .i64 o2, .string n2, .int .i64 v2, .int .i64 b2, .slice A2 k2 c2] 28 (0, 0))) : RdA W AnyD [f, f2] (some ⟨kb, 0, none⟩) 2 := by
  obtain ⟨gs, rfl, rfl, h⟩ := h
  obtain ⟨gs2, rfl, rfl, h2⟩ := h2
  exact RdA.litAny (sl := [(A, c), (A2, c2)]) hk rfl rfl rfl (by omega) fun i hi => by
    have : i = 0 ∨ i = 1 := by simp at hi; omega
    rcases this with rfl | rfl
    · exact h
    · exact h2
theorem is_lit (s : ByteArray) (x : Int) (w : World) :
    Calls Tryz.prog 25 #[.string s, .int .i64 x] w fun e w' => e = .returned (.agg #[.int .i64 3, .string s, .int .i64 x, .int .i64 0, .slice none 0 0]) ∧ VF w' 3 s x 0 none 0 0 (isF s x) ∧ Below w.heap.size w w' := by
  go_enter Tryz.func25, Tryz.ntmps25
  go_wp2_with fail
  refine bodyPost_gen fun W hW => ?_
  have hb : Below w.heap.size w W := by rw [hW]; go_grown
  have hc : W.heap[w.heap.size]? = some (.cells #[.int .i64 3, .string s, .int .i64 x, .int .i64 0, .slice none 0 0] 28 (0, 0)) := by rw [hW]; exact heap_alloc_new w _
  have r0 := block_cell hc (i := 0) rfl
  have r1 := block_cell hc (i := 1) rfl
  have r2 := block_cell hc (i := 2) rfl
  have r3 := block_cell hc (i := 3) rfl
  have r4 := block_cell hc (i := 4) rfl
  clear hW
  exact bodyPost_ret (v := .agg #[.int .i64 3, .string s, .int .i64 x, .int .i64 0, .slice none 0 0]) (by simp [results, Tryz.results25, go_sem, r0, r1, r2, r3, r4]) rfl ⟨rfl, ⟨[], rfl, rfl, RdA.nil _ _ _ (by omega)⟩, hb⟩
theorem op_lit {w : World} {A : Option Addr} {k c : Nat} (o : Int) (gs : List Fm) (hk : k = gs.length) (h : RdA w AnyD gs A c) :
    Calls Tryz.prog 19 #[.int .i64 o, .slice A k c] w fun e w' => e = .returned (.agg #[.int .i64 o, .string ⟨#[]⟩, .int .i64 0, .int .i64 0, .slice A k c]) ∧ VF w' o ⟨#[]⟩ 0 0 A k c (opF o gs) ∧ Below w.heap.size w w' := by
  have HH := hid h
  have HK := hid hk
  clear h hk
  go_enter Tryz.func19, Tryz.ntmps19
  go_wp2_with fail
  refine bodyPost_gen fun W hW => ?_
  have hb : Below w.heap.size w W := by rw [hW]; go_grown
  have hc : W.heap[w.heap.size]? = some (.cells #[.int .i64 o, .string ⟨#[]⟩, .int .i64 0, .int .i64 0, .slice A k c] 28 (0, 0)) := by rw [hW]; exact heap_alloc_new w _
  have r0 := block_cell hc (i := 0) rfl
  have r1 := block_cell hc (i := 1) rfl
  have r2 := block_cell hc (i := 2) rfl
  have r3 := block_cell hc (i := 3) rfl
  have r4 := block_cell hc (i := 4) rfl
  clear hW
  exact bodyPost_ret (v := .agg #[.int .i64 o, .string ⟨#[]⟩, .int .i64 0, .int .i64 0, .slice A k c]) (by simp [results, Tryz.results19, go_sem, r0, r1, r2, r3, r4]) rfl ⟨rfl, ⟨gs, rfl, HK.out, HH.out.any hb⟩, hb⟩
end
theorem VF.over {U U' : World} {o : Int} {n : ByteArray} {v b : Int} {A : Option Addr} {k c r : Nat} {f : Fm} (h : VF U o n v b A k c f) (hz : ∃ ins, allI nzQ ins f) (hr : OB U r 0 ⟨#[]⟩ 0 0 none 0 0) (hc : Chg (fun x => x = r) U U') : VF U' o n v b A k c f := by
  obtain ⟨gs, rfl, rfl, h⟩ := h
  obtain ⟨ins, hz⟩ := hz
  refine ⟨gs, rfl, rfl, ((h.avoid hr fun g hg => ⟨_, (allI_iff.1 hz).2 g hg⟩).keep (hc.keeps fun k _ hk hv => hk.2 hv)).mono fun _ _ _ => trivial⟩
theorem buildF_bnd (o b : Int) (A : Option Addr) (n c : Nat) (w : World) : (Instr.build 28 #[(0, .int .i64 o), (3, .int .i64 b), (4, .slice A n c)]).run Tryz.prog w = .ok (.agg #[.int .i64 o, .string ⟨#[]⟩, .int .i64 0, .int .i64 b, .slice A n c]) w := run_build w 28 _ _ (by kernel_rfl)
/-! The examples. -/
def sR : ByteArray := ⟨#[114]⟩
def sM : ByteArray := ⟨#[109]⟩
def sQ : ByteArray := ⟨#[113]⟩
def exL : List Sg := [⟨sR, true, 2⟩, ⟨sM, false, 3⟩]
def respF (s : ByteArray) (x : Int) : Fm := opF 12 [opF 7 [isF sR 1, opF 11 [isF s x]]]
theorem build_sg3 (s : ByteArray) (q : Bool) (z : Int) (w : World) : (Instr.build 75 #[(0, .string s), (1, .bool q), (2, .int .i64 z)]).run Tryz.prog w = .ok (.agg #[.string s, .bool q, .int .i64 z]) w := run_build w 75 _ _ (by kernel_rfl)
theorem build_sg2 (s : ByteArray) (z : Int) (w : World) : (Instr.build 75 #[(0, .string s), (2, .int .i64 z)]).run Tryz.prog w = .ok (.agg #[.string s, .bool false, .int .i64 z]) w := run_build w 75 _ _ (by kernel_rfl)
attribute [local go_sem] build_sg3 build_sg2
theorem flatG_len (l : List Sg) : (l.flatMap gcells).length = l.length * 3 := by
  induction l with
  | nil => rfl
  | cons x l ih => rw [List.flatMap_cons, List.length_append, ih, List.length_cons, Nat.add_mul, Nat.one_mul]; show 3 + _ = _; omega
theorem rdG_lit {w : World} {kb n : Nat} {cs : Array Value} (l : List Sg) (h : w.heap[kb]? = some (.cells cs 75 (0, 0))) (hcs : cs.toList = l.flatMap gcells) (hn : n = l.length) (hl : n ≤ 1000000) : RdG w AnyD (some ⟨kb, 0, none⟩) n l := by
  subst hn
  refine ⟨⟨flatG_len l, by omega, Nat.le_refl _, by omega⟩, fun _ => ⟨kb, 0, rfl, trivial, lt_of_block h, fun j u hu => ?_⟩⟩
  rw [Nat.zero_add]
  refine block_cell h ?_
  rw [← Array.getElem?_toList, hcs]
  exact hu
theorem example_lit (w : World) :
    Calls Tryz.prog 24 #[] w fun e w' => ∃ kb, e = .returned (.slice (some ⟨kb, 0, none⟩) 2 2) ∧ RdG w' AnyD (some ⟨kb, 0, none⟩) 2 exL ∧ Below w.heap.size w w' := by
  go_enter Tryz.func24, Tryz.ntmps24
  go_wp2_with fail
  refine bodyPost_gen fun W hW => ?_
  have hb : Below w.heap.size w W := by rw [hW]; go_grown
  have hr : RdG W AnyD (some ⟨w.heap.size, 0, none⟩) 2 exL := by
    refine rdG_lit exL (cs := #[.string sR, .bool true, .int .i64 2, .string sM, .bool false, .int .i64 3]) ?_ rfl rfl (by omega)
    rw [hW]; exact heap_alloc_new w _
  clear hW
  go_ret
  exact ⟨_, rfl, hr, hb⟩
set_option maxRecDepth 100000 in
set_option maxHeartbeats 4000000 in
theorem responds_lit (s : ByteArray) (x : Int) (w : World) :
    Calls Tryz.prog 26 #[.string s, .int .i64 x] w fun e w' => ∃ A c, e = .returned (.agg #[.int .i64 12, .string ⟨#[]⟩, .int .i64 0, .int .i64 0, .slice A 1 c]) ∧ VF w' 12 ⟨#[]⟩ 0 0 A 1 c (respF s x) ∧ Below w.heap.size w w' := by
  go_enter Tryz.func26, Tryz.ntmps26
  go_upto_region 1 with (fail)
  refine wp_gen fun W hW => ?_
  have HB := hid (show Below w.heap.size w W by rw [hW]; go_grown)
  have HO := hid (show OB W w.heap.size 0 ⟨#[]⟩ 0 0 none 0 0 by rw [hW]; exact at_new _ _ _ rfl)
  clear hW
  obtain ⟨rb, hrb⟩ : ∃ rb, rb = w.heap.size := ⟨_, rfl⟩
  have HRB := hid (show w.heap.size ≤ rb by omega)
  rw [← hrb] at HO ⊢
  clear hrb
  go_wp2_with (first | (go_at_call 25; (with_reducible refine (is_lit ⟨#[114]⟩ 1 _).mono ?_); rintro e U ⟨rfl, hv, hb⟩; have hbu := nx_of HB.out (by first | exact Below.refl _ _ | go_grown) hb; replace HB := hid (belNx HB.out hbu); (try (replace HO := hid (HO.out.below hbu))); (try (replace HV1 := hid (HV1.out.below hbu))); (try (replace HV2 := hid (HV2.out.below hbu))); (try (replace HV3 := hid (HV3.out.below hbu))); (try (replace HV4 := hid (HV4.out.below hbu))); (try (replace HV5 := hid (HV5.out.below hbu))); clear hbu hb; have HV1 := hid hv; clear hv) | (go_at_call 25; (with_reducible refine (is_lit s x _).mono ?_); rintro e U ⟨rfl, hv, hb⟩; have hbu := nx_of HB.out (by first | exact Below.refl _ _ | go_grown) hb; replace HB := hid (belNx HB.out hbu); (try (replace HO := hid (HO.out.below hbu))); (try (replace HV1 := hid (HV1.out.below hbu))); (try (replace HV2 := hid (HV2.out.below hbu))); (try (replace HV3 := hid (HV3.out.below hbu))); (try (replace HV4 := hid (HV4.out.below hbu))); (try (replace HV5 := hid (HV5.out.below hbu))); clear hbu hb; have HV2 := hid hv; clear hv) | (go_at_call 19; (with_reducible refine (op_lit 11 [isF s x] ?_ ?_).mono ?_); rfl; (first | exact lit_slice1 (HV2.out.below (by first | exact Below.refl _ _ | go_grown)) (at_new _ _ _ rfl) | exact lit_slice1 (HV2.out.below (by first | exact Below.refl _ _ | go_grown)) (at_new _ _ _ (by (simp; done))) | exact lit_slice1 (HV2.out.below (by first | exact Below.refl _ _ | go_grown)) ((at_old _ _ _ (by (simp; done))).trans (at_new _ _ _ rfl)) | exact lit_slice1 (HV2.out.below (by first | exact Below.refl _ _ | go_grown)) ((at_old _ _ _ (by (simp; done))).trans (at_new _ _ _ (by (simp; done))))); rintro e U ⟨rfl, hv, hb⟩; have hbu := nx_of HB.out (by first | exact Below.refl _ _ | go_grown) hb; replace HB := hid (belNx HB.out hbu); (try (replace HO := hid (HO.out.below hbu))); (try (replace HV1 := hid (HV1.out.below hbu))); (try (replace HV2 := hid (HV2.out.below hbu))); (try (replace HV3 := hid (HV3.out.below hbu))); (try (replace HV4 := hid (HV4.out.below hbu))); (try (replace HV5 := hid (HV5.out.below hbu))); clear hbu hb; have HV3 := hid hv; clear hv) | (go_at_call 19; (with_reducible refine (op_lit 7 [isF sR 1, opF 11 [isF s x]] ?_ ?_).mono ?_); rfl; (first | exact lit_slice2 (HV1.out.below (by first | exact Below.refl _ _ | go_grown)) (HV3.out.below (by first | exact Below.refl _ _ | go_grown)) (at_new _ _ _ rfl) | exact lit_slice2 (HV1.out.below (by first | exact Below.refl _ _ | go_grown)) (HV3.out.below (by first | exact Below.refl _ _ | go_grown)) (at_new _ _ _ (by (simp; done))) | exact lit_slice2 (HV1.out.below (by first | exact Below.refl _ _ | go_grown)) (HV3.out.below (by first | exact Below.refl _ _ | go_grown)) ((at_old _ _ _ (by (simp; done))).trans (at_new _ _ _ rfl)) | exact lit_slice2 (HV1.out.below (by first | exact Below.refl _ _ | go_grown)) (HV3.out.below (by first | exact Below.refl _ _ | go_grown)) ((at_old _ _ _ (by (simp; done))).trans (at_new _ _ _ (by (simp; done))))); rintro e U ⟨rfl, hv, hb⟩; have hbu := nx_of HB.out (by first | exact Below.refl _ _ | go_grown) hb; replace HB := hid (belNx HB.out hbu); (try (replace HO := hid (HO.out.below hbu))); (try (replace HV1 := hid (HV1.out.below hbu))); (try (replace HV2 := hid (HV2.out.below hbu))); (try (replace HV3 := hid (HV3.out.below hbu))); (try (replace HV4 := hid (HV4.out.below hbu))); (try (replace HV5 := hid (HV5.out.below hbu))); clear hbu hb; have HV4 := hid hv; clear hv) | (go_at_call 19; (with_reducible refine (op_lit 12 [opF 7 [isF sR 1, opF 11 [isF s x]]] ?_ ?_).mono ?_); rfl; (first | exact lit_slice1 (HV4.out.below (by first | exact Below.refl _ _ | go_grown)) (at_new _ _ _ rfl) | exact lit_slice1 (HV4.out.below (by first | exact Below.refl _ _ | go_grown)) (at_new _ _ _ (by (simp; done))) | exact lit_slice1 (HV4.out.below (by first | exact Below.refl _ _ | go_grown)) ((at_old _ _ _ (by (simp; done))).trans (at_new _ _ _ rfl)) | exact lit_slice1 (HV4.out.below (by first | exact Below.refl _ _ | go_grown)) ((at_old _ _ _ (by (simp; done))).trans (at_new _ _ _ (by (simp; done))))); rintro e U ⟨rfl, hv, hb⟩; have hbu := nx_of HB.out (by first | exact Below.refl _ _ | go_grown) hb; replace HB := hid (belNx HB.out hbu); (try (replace HO := hid (HO.out.below hbu))); (try (replace HV1 := hid (HV1.out.below hbu))); (try (replace HV2 := hid (HV2.out.below hbu))); (try (replace HV3 := hid (HV3.out.below hbu))); (try (replace HV4 := hid (HV4.out.below hbu))); (try (replace HV5 := hid (HV5.out.below hbu))); clear hbu hb; have HV5 := hid hv; clear hv; obtain ⟨r0, r1, r2, r3, r4, r5⟩ := HO.out.cells; have q0 := HO.out.free 0; have q1 := HO.out.free 1; have q2 := HO.out.free 2; have q3 := HO.out.free 3; have q4 := HO.out.free 4))
  refine bodyPost_gen fun W9 hW9 => ?_
  obtain ⟨AZ, HV5', hO9⟩ : ∃ AZ, VF U 12 ⟨#[]⟩ 0 0 AZ 1 1 (respF s x) ∧ OB W9 rb 12 ⟨#[]⟩ 0 0 AZ 1 1 := ⟨_, HV5.out, by rw [hW9]; exact set5_OB HO.out⟩
  have hC9 : Chg (fun k => k = rb) U W9 := by rw [hW9]; exact set5_chg0 U rb _ _ _ _ _
  have hv9 := HV5'.over ⟨false, rfl⟩ HO.out hC9
  have hb9 : Below w.heap.size w W9 := HB.out.trans (hC9.below (B := w.heap.size) (fun k hk e => by have := HRB.out; omega) HB.out.size)
  clear hW9 r0 r1 r2 r3 r4 r5 q0 q1 q2 q3 q4 hC9
  obtain ⟨r0, r1, r2, r3, r4, r5⟩ := hO9.cells
  exact bodyPost_ret (v := .agg #[.int .i64 12, .string ⟨#[]⟩, .int .i64 0, .int .i64 0, .slice AZ 1 1]) (by simp [results, Tryz.results26, go_sem, r0, r1, r2, r3, r4]) rfl ⟨AZ, 1, rfl, hv9, hb9⟩
end Go.Proofs.YtdakdpfofgkjoaaGreatDoor
set_option linter.unusedVariables false
set_option linter.unusedSimpArgs false
namespace Go.Proofs.YtdakdpfofgkjoaaGreatDoor

def sA : ByteArray := ⟨#[97]⟩
def sB : ByteArray := ⟨#[98]⟩
def sG : ByteArray := ⟨#[103]⟩
def sP : ByteArray := ⟨#[112]⟩
theorem name_r : nameB sR = true := by unfold nameB; simp only [ByteArray.toList_eq]; decide
theorem name_m : nameB sM = true := by unfold nameB; simp only [ByteArray.toList_eq]; decide
theorem name_q : nameB sQ = true := by unfold nameB; simp only [ByteArray.toList_eq]; decide
theorem name_a : nameB sA = true := by unfold nameB; simp only [ByteArray.toList_eq]; decide
theorem name_b : nameB sB = true := by unfold nameB; simp only [ByteArray.toList_eq]; decide
theorem name_g : nameB sG = true := by unfold nameB; simp only [ByteArray.toList_eq]; decide
theorem name_p : nameB sP = true := by unfold nameB; simp only [ByteArray.toList_eq]; decide
def exLate : Fm := .mk 13 ⟨#[]⟩ 0 9 [.mk 13 ⟨#[]⟩ 0 9 [isF sR 1]]
def exMixed : Fm := opF 12 [opF 7 [opF 18 [opF 11 [isF sR 1]], isF sM 0]]
theorem valid_ex : validS exL = true := by
  have h0 : sgOk exL 0 = true := by
    unfold sgOk
    show (nameB sR && _ && _ && _) = true
    rw [name_r]; rfl
  have h1 : sgOk exL 1 = true := by
    unfold sgOk
    show (nameB sM && _ && _ && _) = true
    rw [name_m]; rfl
  have h2 : allN exL.length (sgOk exL) = true := allN_of fun j hj => by
    have : j = 0 ∨ j = 1 := by have hj : j < 2 := hj; omega
    rcases this with rfl | rfl
    · exact h0
    · exact h1
  unfold validS
  rw [h2]; rfl
theorem shp_unnamed {o v b : Int} {l : List Fm} (h : (formZ o).named = false) : shapedB (.mk o ⟨#[]⟩ v b l) = (isOp o && decide ((formZ o).least ≤ l.length) && decide (l.length ≤ (formZ o).most) && decide (0 ≤ v) && decide (v ≤ (formZ o).val) && decide (0 ≤ b) && decide (b ≤ (formZ o).bound)) := by
  unfold shapedB
  show (_ && nameOk (formZ o) ⟨#[]⟩) = _
  rw [nameOk_empty h, Bool.and_true]
  rfl
theorem shp_is {s : ByteArray} (hs : nameB s = true) {x : Int} (h0 : 0 ≤ x) (h3 : x ≤ 3) (ins : Bool) : allI shpQ ins (isF s x) := by
  refine allI_iff.2 ⟨?_, fun g hg => by cases hg⟩
  show shapedB (isF s x) = true
  exact shp_of (f := isF s x) rfl (Nat.le_refl 0) (Nat.le_refl 0) h0 h3 (Int.le_refl 0) (Int.le_refl 0) (by show nameOk (formZ 3) s = true; unfold nameOk; exact hs)
theorem allI_one {q : Fm × Bool → Bool} {ins : Bool} {o v b : Int} {n : ByteArray} {f : Fm} (h : q (.mk o n v b [f], ins) = true) (hf : allI q (ins || (formZ o).past) f) : allI q ins (.mk o n v b [f]) := allI_iff.2 ⟨h, fun g hg => by
  have : g = f := List.mem_singleton.1 hg
  rw [this]; exact hf⟩
theorem allI_two {q : Fm × Bool → Bool} {ins : Bool} {o v b : Int} {n : ByteArray} {f f2 : Fm} (h : q (.mk o n v b [f, f2], ins) = true) (hf : allI q (ins || (formZ o).past) f) (hf2 : allI q (ins || (formZ o).past) f2) : allI q ins (.mk o n v b [f, f2]) := allI_iff.2 ⟨h, fun g hg => by
  have hg : g ∈ [f, f2] := hg
  simp at hg
  rcases hg with rfl | rfl
  · exact hf
  · exact hf2⟩
theorem shp1 {ins : Bool} {o v b : Int} {f : Fm} (h : (formZ o).named = false) (hs : (isOp o && decide ((formZ o).least ≤ 1) && decide (1 ≤ (formZ o).most) && decide (0 ≤ v) && decide (v ≤ (formZ o).val) && decide (0 ≤ b) && decide (b ≤ (formZ o).bound)) = true) (hf : allI shpQ (ins || (formZ o).past) f) : allI shpQ ins (.mk o ⟨#[]⟩ v b [f]) :=
  allI_one (by show shapedB _ = true; rw [shp_unnamed h]; exact hs) hf
theorem shp2 {ins : Bool} {o v b : Int} {f f2 : Fm} (h : (formZ o).named = false) (hs : (isOp o && decide ((formZ o).least ≤ 2) && decide (2 ≤ (formZ o).most) && decide (0 ≤ v) && decide (v ≤ (formZ o).val) && decide (0 ≤ b) && decide (b ≤ (formZ o).bound)) = true) (hf : allI shpQ (ins || (formZ o).past) f) (hf2 : allI shpQ (ins || (formZ o).past) f2) : allI shpQ ins (.mk o ⟨#[]⟩ v b [f, f2]) :=
  allI_two (by show shapedB _ = true; rw [shp_unnamed h]; exact hs) hf hf2
theorem valid_of {f : Fm} (h0 : fitsB f 60 20 = true) (h1 : allI shpQ false f) : validB f = true := by unfold validB; rw [h0]; exact h1
theorem valid_resp {s : ByteArray} (hs : nameB s = true) {x : Int} (h0 : 0 ≤ x) (h3 : x ≤ 3) : validB (respF s x) = true :=
  valid_of rfl (shp1 rfl rfl (shp2 rfl rfl (shp_is name_r (by omega) (by omega) _) (shp1 rfl rfl (shp_is hs h0 h3 _))))
theorem ex_resp : formErr exL (respF sM 2) = 0 := by
  rw [formErr_zero]
  refine ⟨valid_ex, valid_resp name_m (by omega) (by omega), by kernel_rfl, ?_⟩
  have hv := valid_resp (s := sM) (x := 2) name_m (by omega) (by omega)
  have hl : layB (respF sM 2) = true := by kernel_rfl
  unfold kernZ
  rw [hv, hl]
  rfl
theorem err_of {l : List Sg} {f : Fm} {r : Int} (hv : validS l = true) (hb : validB f = true) (he : errL l (preL false f) = r) (hr : r ≠ 0) : formErr l f = r := by
  unfold formErr
  rw [hv, hb, he, if_pos rfl, if_pos rfl, if_neg hr]
theorem ex_resp3 : formErr exL (respF sM 3) = 71 := err_of valid_ex (valid_resp name_m (by omega) (by omega)) (by kernel_rfl) (by decide)
theorem ex_respQ : formErr exL (respF sQ 0) = 70 := err_of valid_ex (valid_resp name_q (by omega) (by omega)) (by kernel_rfl) (by decide)
theorem ex_mixed : formErr exL exMixed = 72 := err_of valid_ex (valid_of rfl (shp1 rfl rfl (shp2 rfl rfl (shp1 rfl rfl (shp1 rfl rfl (shp_is name_r (by omega) (by omega) _))) (shp_is name_m (by omega) (by omega) _)))) (by kernel_rfl) (by decide)
theorem ex_late : formErr exL exLate = 2 := by
  have hv : validB exLate = true := valid_of rfl (shp1 rfl rfl (shp1 rfl rfl (shp_is name_r (by omega) (by omega) _)))
  have hl : layB exLate = true := by kernel_rfl
  have he : errL exL (preL false exLate) = 0 := by kernel_rfl
  have hk : (kernZ exLate).2 = 2 := by
    unfold kernZ
    rw [hv, hl]
    kernel_rfl
  unfold formErr
  rw [valid_ex, hv, he, hk]; rfl
theorem ex_nil : formErr [] exLate = 1 := rfl
theorem ex_zero : formErr exL zeroF = 30 := by
  have hv : validB zeroF = false := by
    cases h : validB zeroF
    · rfl
    · unfold validB at h
      rw [Bool.and_eq_true] at h
      have := allB_root h.2
      exact absurd (show isOp 0 = true from (shp_out this).1) (by decide)
  unfold formErr
  rw [valid_ex, hv]; rfl
/-! The specification. -/
def exR3 : List Rq := [⟨sP, sA, 1, isF sR 0⟩, ⟨sP, sA, 2, isF sM 1⟩, ⟨sP, sG, 3, isF sM 1⟩]
def exR3b : List Rq := [⟨sP, sA, 1, isF sR 0⟩, ⟨sP, sB, 2, isF sM 1⟩, ⟨sP, sG, 3, isF sM 1⟩]
def exR2 : List Rq := [⟨sP, sA, 1, isF sR 0⟩, ⟨sP, sB, 2, isF sM 1⟩]
theorem kern_is {s : ByteArray} (hs : nameB s = true) {x : Int} (h0 : 0 ≤ x) (h3 : x ≤ 3) : validB (isF s x) = true ∧ kernZ (isF s x) = (isF s x, 0) := by
  have hv := valid_of (f := isF s x) rfl (shp_is hs h0 h3 _)
  refine ⟨hv, ?_⟩
  unfold kernZ
  rw [hv]
  rfl
theorem err_is {s : ByteArray} (hs : nameB s = true) {x : Int} (h0 : 0 ≤ x) (h3 : x ≤ 3) (he : errL exL (preL false (isF s x)) = 0) : formErr exL (isF s x) = 0 := by
  unfold formErr
  rw [valid_ex, (kern_is hs h0 h3).1, he, (kern_is hs h0 h3).2]; rfl
theorem err_r0 : formErr exL (isF sR 0) = 0 := err_is name_r (by omega) (by omega) (by kernel_rfl)
theorem err_m1 : formErr exL (isF sM 1) = 0 := err_is name_m (by omega) (by omega) (by kernel_rfl)
theorem words_ex {n : ByteArray} (hn : nameB n = true) {k : Int} (hk : k = 1 ∨ k = 2) (f : Fm) : wordsOk ⟨sP, n, k, f⟩ = true := by
  unfold wordsOk
  show ((decide (k = 1) || decide (k = 2)) && nameB sP && nameB n) = true
  rw [name_p, hn]
  rcases hk with rfl | rfl <;> rfl
theorem ex_twice : goalZ exL exR3 = (zeroF, 4) := by
  have h0 : reqErr exL exR3 0 = 0 := by
    rw [reqErr_zero (by decide)]
    exact ⟨words_ex name_a (.inl rfl) _, Nat.zero_le _, err_r0⟩
  have h1 : reqErr exL exR3 1 = 4 := by
    unfold reqErr
    show (if wordsOk ⟨sP, sA, 2, isF sM 1⟩ = true then (if firstN sA [sA, sA, sG] < 1 then (4 : Int) else _) else 1) = 4
    rw [if_pos (words_ex name_a (.inr rfl) _), if_pos (by decide)]
  have hc : ∃ L, checkZ exL exR3 = (1, 4) :: L := by
    unfold checkZ
    rw [valid_ex, if_pos rfl, if_pos (by decide)]
    show ∃ L, faultsTo exL exR3 3 = _
    rw [faultsTo_succ, faultsTo_succ, faultsTo_succ, h0, h1]
    exact ⟨_, rfl⟩
  obtain ⟨L, hL⟩ := hc
  exact goalZ_err hL
theorem ex_good : Good exL exR2 := by
  refine ⟨valid_ex, by decide, fun r hr => ?_, fun r hr => ?_, ?_⟩
  · simp only [exR2, List.mem_cons, List.not_mem_nil, or_false] at hr
    rcases hr with rfl | rfl
    · exact words_ex name_a (.inl rfl) _
    · exact words_ex name_b (.inr rfl) _
  · simp only [exR2, List.mem_cons, List.not_mem_nil, or_false] at hr
    rcases hr with rfl | rfl
    · exact err_r0
    · exact err_m1
  · show [sA, sB].Nodup
    decide
theorem ex_check2 : checkZ exL exR2 = [] := check_nil.2 ex_good
theorem ex_check0 : checkZ [] [] = [(-1, 1)] := rfl
def exW : Fm := connZ 6 [opF 4 [isF sR 0], isF sM 1]
theorem loose_is {s : ByteArray} (hs : nameB s = true) {x : Int} (h0 : 0 ≤ x) (h3 : x ≤ 3) : looseB (isF s x) = true ∧ Can (isF s x) ∧ looseB (opF 4 [isF s x]) = true := by
  have hb : ∀ ins, allI bareQ ins (isF s x) := fun ins => by
    refine allI_iff.2 ⟨?_, fun g hg => by cases hg⟩
    have := (allI_iff.1 (shp_is hs h0 h3 ins)).1
    exact bare_mk rfl this (fun h => by cases h) (fun h => by cases h)
  have h1 : looseB (isF s x) = true := loose_of (by show 1 ≤ 400; omega) (by show 1 ≤ 60; omega) (hb _)
  have hc : canonZ (isF s x) = isF s x := rfl
  refine ⟨h1, by rw [← hc]; exact loose_can h1, loose_of (by show 2 ≤ 400; omega) (by show 2 ≤ 60; omega) ?_⟩
  exact allI_one (bare_mk (f := opF 4 [isF s x]) rfl (by show shapedB (.mk 4 ⟨#[]⟩ 0 0 [isF s x]) = true; rw [shp_unnamed rfl]; rfl) (fun h => by cases h) (fun _ => rfl)) (hb _)
theorem ex_goal : goalZ exL exR2 = (exW, 0) := by
  have hr := loose_is (s := sR) (x := 0) name_r (by omega) (by omega)
  have hm := loose_is (s := sM) (x := 1) name_m (by omega) (by omega)
  have hp : partsZ exR2 = [opF 4 [isF sR 0]] := by
    show [notZ (kernZ (isF sR 0)).1] = _
    rw [(kern_is name_r (by omega) (by omega)).2]
    unfold notZ
    rw [hr.1]
    rfl
  have hg : guarsZ exR2 = [isF sM 1] := by
    show [(kernZ (isF sM 1)).1] = _
    rw [(kern_is name_m (by omega) (by omega)).2]
  have h5 : connZ 5 (guarsZ exR2) = isF sM 1 := by rw [hg]; exact connZ_one (.inl rfl) hm.1 hm.2.1
  have h6 : partsZ exR2 ++ [connZ 5 (guarsZ exR2)] = [opF 4 [isF sR 0], isF sM 1] := by rw [hp, h5]; rfl
  have h7 : (connZ 6 [opF 4 [isF sR 0], isF sM 1]).op ≠ 0 := by
    have := conn_eq (op := 6) (.inr rfl) (l := [opF 4 [isF sR 0], isF sM 1]) (fun g hg => by
      simp only [List.mem_cons, List.not_mem_nil, or_false] at hg
      rcases hg with rfl | rfl
      · exact hr.2.2
      · exact hm.1) (by decide) (by decide)
    rw [this.1]
    exact loose_op this.2
  rw [goal_good ex_good, last_of (by rw [h5]; decide) (by rw [h6]; exact h7), h6]
  rfl
end Go.Proofs.YtdakdpfofgkjoaaGreatDoor
