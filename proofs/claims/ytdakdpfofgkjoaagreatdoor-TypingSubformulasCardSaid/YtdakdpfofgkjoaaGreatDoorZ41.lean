/-
  Walk of head of layer 7.
-/
import Derived.Test.YtdakdpfofgkjoaaGreatDoorZ40
set_option linter.unusedVariables false
set_option linter.unusedSimpArgs false
namespace Go.Proofs.YtdakdpfofgkjoaaGreatDoor
open Go.RowKit Go.Shelf
theorem build_rq (a b : ByteArray) (k o v bd : Int) (n : ByteArray) (A : Option Addr) (m c : Nat) (w : World) : (Instr.build 54 #[(0, .string a), (1, .string b), (2, .int .i64 k), (3, .agg #[.int .i64 o, .string n, .int .i64 v, .int .i64 bd, .slice A m c])]).run Tryz.prog w = .ok (.agg #[.string a, .string b, .int .i64 k, .int .i64 o, .string n, .int .i64 v, .int .i64 bd, .slice A m c]) w := run_build w 54 _ _ (by kernel_rfl)
theorem build_sp (A B : Option Addr) (n c m d : Nat) (w : World) : (Instr.build 25 #[(0, .slice A n c), (1, .slice B m d)]).run Tryz.prog w = .ok (.agg #[.slice A n c, .slice B m d]) w := run_build w 25 _ _ (by kernel_rfl)
theorem build_sp0 (w : World) : (Instr.build 25 #[]).run Tryz.prog w = .ok (.agg #[.slice none 0 0, .slice none 0 0]) w := run_build w 25 _ _ (by kernel_rfl)
attribute [local go_sem] cell_alloc_old buildF_op buildF_o buildF_is buildF_bnd buildF_zero build_rq build_sp build_sp0
theorem RdG.belowD {w w' : World} {D : Dom} {A : Option Addr} {c : Nat} {l : List Sg} (h : RdG w D A c l) (hb : Below w.heap.size w w') : RdG w' D A c l :=
  ((h.mono (E := fun k => D k ∧ k < w.heap.size) fun k hk hl => ⟨hk, hl⟩).keep (Keeps.of_below hb fun _ h => h.2)).mono fun _ h _ => h.1
theorem rdR_lit {w : World} {kb n c : Nat} {cs : Array Value} (rs : List Rq) (tl : List Value) (h : w.heap[kb]? = some (.cells cs 54 (0, 0))) (hcs : cs.toList = cellsQ rs (rs.map fun _ => (none, 0)) ++ tl) (hn : n = rs.length) (hl : n ≤ 1000000) (hc : n ≤ c) (hc2 : c ≤ 1000000) (ha : ∀ r, r ∈ rs → r.f.args = []) : RdR w AnyD (some ⟨kb, 0, none⟩) c rs := by
  subst hn
  refine ⟨rs.map fun _ => (none, 0), by simp, ⟨⟨?_, by omega, hc, by omega⟩, fun _ => ⟨kb, 0, rfl, trivial, lt_of_block h, fun j u hu => ?_⟩⟩, fun i hi => ?_⟩
  · clear h hcs hl hc ha
    induction rs with
    | nil => rfl
    | cons x l ih =>
      show (qcells x (none, 0) ++ cellsQ l (l.map fun _ => (none, 0))).length = _
      rw [List.length_append, ih, List.length_cons, Nat.add_mul, Nat.one_mul]
      show 8 + _ = _
      omega
  · rw [Nat.zero_add]
    refine block_cell h ?_
    rw [← Array.getElem?_toList, hcs, List.getElem?_append_left]
    · exact hu
    · exact (List.getElem?_eq_some_iff.1 hu).1
  · have e : (rs.getD i default).f.args = [] := ha _ (getD_mem hi)
    rw [e]
    have e2 : (rs.map fun _ => ((none : Option Addr), 0)).getD i (none, 0) = (none, 0) := by simp [List.getD, hi]
    rw [e2]
    exact RdA.nil _ _ _ (by omega)
section
variable {w : World} {o : Int} {n : ByteArray} {v b : Int} {A : Option Addr} {k c : Nat} {f : Fm}
theorem typform_lit {AS : Option Addr} {m cS : Nat} {D : Dom} {l : List Sg} (r : Int) (hr : formErr l f = r) (h : VF w o n v b A k c f) (hl : RdG w D AS cS l) (hm : m = l.length) (hg : GF w) (hk : GK w) :
    Calls Tryz.prog 10 #[.slice AS m cS, .agg #[.int .i64 o, .string n, .int .i64 v, .int .i64 b, .slice A k c]] w fun e w' => e = .returned (.int .i64 r) ∧ Below w.heap.size w w' := by
  rw [← hr]; exact typform_any l AS cS m f _ w hm hl h.rd hg hk
theorem same_lit {o2 : Int} {n2 : ByteArray} {v2 b2 : Int} {A2 : Option Addr} {k2 c2 : Nat} {f2 : Fm} (r : Bool) (hr : decide (f.cmp f2 = 0) = r) (h : VF w o n v b A k c f) (h2 : VF w o2 n2 v2 b2 A2 k2 c2 f2) :
    Calls Tryz.prog 15 #[.agg #[.int .i64 o, .string n, .int .i64 v, .int .i64 b, .slice A k c], .agg #[.int .i64 o2, .string n2, .int .i64 v2, .int .i64 b2, .slice A2 k2 c2]] w fun e w' => e = .returned (.bool r) ∧ Below w.heap.size w w' := by
  rw [← hr]; exact rsame_any f f2 _ _ w h.rd h2.rd
theorem or_lit {l : List Fm} (g : Fm) (hz : connZ 6 l = g) (h : RdA w AnyD l A c) (hl : k = l.length) (hs : sizes l ≤ 1000000) (hg : GF w) (hk : GK w) :
    Calls Tryz.prog 27 #[.slice A k c] w fun e w' => ∃ A' c', e = .returned (.agg #[.int .i64 g.op, .string g.name, .int .i64 g.val, .int .i64 g.bound, .slice A' g.args.length c']) ∧ VF w' g.op g.name g.val g.bound A' g.args.length c' g ∧ Below w.heap.size w w' :=
  (or_any h hl hs hg hk).mono fun e w' ⟨x, e1, hb, A', c', e2, h2⟩ => by
    rw [hz] at e2 h2
    exact ⟨A', c', by rw [e1, e2], VF.of h2, hb⟩
theorem goal_lit {D E : Dom} {l : List Sg} {rs : List Rq} {AS AR : Option Addr} {n m cS cR : Nat} (g : Fm) (r : Int) (hz : goalZ l rs = (g, r)) (hn : n = l.length) (hl : RdG w D AS cS l) (hm : m = rs.length) (hr : RdR w E AR cR rs) (hg : GF w) (hk : GK w) :
    Calls Tryz.prog 8 #[.agg #[.slice AS n cS, .slice AR m cR]] w fun e w' => ∃ A' c', e = .returned (.tuple #[.agg #[.int .i64 g.op, .string g.name, .int .i64 g.val, .int .i64 g.bound, .slice A' g.args.length c'], .int .i64 r]) ∧ VF w' g.op g.name g.val g.bound A' g.args.length c' g ∧ Below w.heap.size w w' :=
  (goal_any l rs AS n cS AR m cR w hn hl hm hr hg hk).mono fun e w' ⟨A', c', e1, h1, hb⟩ => by
    rw [hz] at e1 h1
    exact ⟨A', c', e1, VF.of h1, hb⟩
theorem check_lit {D E : Dom} {l : List Sg} {rs : List Rq} {AS AR : Option Addr} {n m cS cR : Nat} (L : List (Int × Int)) (q : Nat) (hz : checkZ l rs = L) (hq : L.length = q) (hn : n = l.length) (hl : RdG w D AS cS l) (hm : m = rs.length) (hr : RdR w E AR cR rs) (hg : GF w) (hk : GK w) :
    Calls Tryz.prog 13 #[.agg #[.slice AS n cS, .slice AR m cR]] w fun e w' => ∃ A' c', e = .returned (.slice A' q c') ∧ RdT w' AnyD A' c' L ∧ Below w.heap.size w w' :=
  (check_any l rs AS n cS AR m cR w hn hl hm hr hg hk).mono fun e w' ⟨A', c', e1, h1, hb⟩ => by
    rw [hz] at e1 h1
    rw [hq] at e1
    exact ⟨A', c', e1, Rd.mono h1 fun _ _ _ => trivial, hb⟩
end
set_option maxRecDepth 100000 in
set_option maxHeartbeats 8000000 in
theorem head7_any (w : World) (hg : GF w) (hk : GK w) :
    Calls Tryz.prog 5 #[] w fun e w' => e = .returned (.bool true) ∧ Below w.heap.size w w' := by
  have HG := hid hg
  have HK := hid hk
  have HG0 := hid hg
  have HK0 := hid hk
  have HB := hid (Below.refl w.heap.size w)
  clear hg hk
  go_enter Tryz.func5, Tryz.ntmps5
  go_upto_region 2 with (go_at_call 24; (with_reducible refine (example_lit _).mono ?_); rintro e U ⟨kb, rfl, hv, hb⟩; have hbu := nx_of HB.out (by first | exact Below.refl _ _ | go_grown) hb; replace HG := hid (HG.out.nx hbu); replace HK := hid (HK.out.nx hbu); replace HB := hid (belNx HB.out hbu); clear hbu hb; have HX := hid hv; clear hv)
  go_upto_region 3 with (go_at_call 25; (with_reducible refine (is_lit ⟨#[114]⟩ 1 _).mono ?_); rintro e U ⟨rfl, hv, hb⟩; have hbu := nx_of HB.out (by first | exact Below.refl _ _ | go_grown) hb; replace HG := hid (HG.out.nx hbu); replace HK := hid (HK.out.nx hbu); replace HB := hid (belNx HB.out hbu); replace HX := hid (HX.out.belowD hbu); (try (replace HV1 := hid (HV1.out.below hbu))); clear hbu hb; have HV1 := hid hv; clear hv)
  refine wp_gen fun W hW => ?_
  have hb : Below U.heap.size U W := by rw [hW]; go_grown
  have k1 : W.heap[U.heap.size]? = some (.cells #[.int .i64 3, .string ⟨#[114]⟩, .int .i64 1, .int .i64 0, .slice none 0 0] 28 (0, 0)) := by rw [hW, at_old _ _ _ (by simp; omega), at_old _ _ _ (by simp)]; exact at_new _ _ _ rfl
  have k2 : W.heap[U.heap.size + 1]? = some (.cells #[.int .i64 13, .string ⟨#[]⟩, .int .i64 0, .int .i64 9, .slice (some ⟨U.heap.size, 0, none⟩) 1 1] 28 (0, 0)) := by rw [hW, at_old _ _ _ (by simp)]; exact at_new _ _ _ (by simp)
  obtain ⟨A2, HF2, HO2⟩ : ∃ A2, Hid (VF W 13 ⟨#[]⟩ 0 9 A2 1 1 exLate) ∧ Hid (OB W (U.heap.size + 1 + 1) 13 ⟨#[]⟩ 0 9 A2 1 1) :=
    ⟨some ⟨U.heap.size + 1, 0, none⟩, ⟨_, rfl, rfl, lit_slice1 (f := .mk 13 ⟨#[]⟩ 0 9 [isF sR 1]) ⟨[isF sR 1], rfl, rfl, lit_slice1 (f := isF sR 1) (HV1.out.below hb) k1⟩ k2⟩, by rw [hW]; exact at_new _ _ _ (by simp)⟩
  have hbu := hb
  replace HG := hid (HG.out.nx hbu)
  replace HK := hid (HK.out.nx hbu)
  replace HB := hid (belNx HB.out hbu)
  replace HX := hid (HX.out.belowD hbu)
  clear hW hb hbu k1 k2 HV1
  obtain ⟨b2, hb2⟩ : ∃ b2, b2 = U.heap.size + 1 + 1 := ⟨_, rfl⟩
  rw [← hb2] at HO2 ⊢
  clear hb2
  rename World => W
  go_upto_region 4 with (first | (go_at_call 25; (with_reducible refine (is_lit ⟨#[114]⟩ 1 _).mono ?_); rintro e U ⟨rfl, hv, hb⟩; have hbu := nx_of HB.out (by first | exact Below.refl _ _ | go_grown) hb; replace HG := hid (HG.out.nx hbu); replace HK := hid (HK.out.nx hbu); replace HB := hid (belNx HB.out hbu); replace HX := hid (HX.out.belowD hbu); (try (replace HF2 := hid (HF2.out.below hbu))); (try (replace HO2 := hid (HO2.out.below hbu))); (try (replace HM1 := hid (HM1.out.below hbu))); (try (replace HM2 := hid (HM2.out.below hbu))); (try (replace HM3 := hid (HM3.out.below hbu))); (try (replace HM4 := hid (HM4.out.below hbu))); (try (replace HM5 := hid (HM5.out.below hbu))); (try (replace HM6 := hid (HM6.out.below hbu))); clear hbu hb; have HM1 := hid hv; clear hv) | (go_at_call 19; (with_reducible refine (op_lit 11 [isF sR 1] ?_ ?_).mono ?_); rfl; (first | exact lit_slice1 (HM1.out.below (by first | exact Below.refl _ _ | go_grown)) (at_new _ _ _ rfl) | exact lit_slice1 (HM1.out.below (by first | exact Below.refl _ _ | go_grown)) (at_new _ _ _ (by (simp; done))) | exact lit_slice1 (HM1.out.below (by first | exact Below.refl _ _ | go_grown)) ((at_old _ _ _ (by (simp; done))).trans (at_new _ _ _ rfl)) | exact lit_slice1 (HM1.out.below (by first | exact Below.refl _ _ | go_grown)) ((at_old _ _ _ (by (simp; done))).trans (at_new _ _ _ (by (simp; done))))); rintro e U ⟨rfl, hv, hb⟩; have hbu := nx_of HB.out (by first | exact Below.refl _ _ | go_grown) hb; replace HG := hid (HG.out.nx hbu); replace HK := hid (HK.out.nx hbu); replace HB := hid (belNx HB.out hbu); replace HX := hid (HX.out.belowD hbu); (try (replace HF2 := hid (HF2.out.below hbu))); (try (replace HO2 := hid (HO2.out.below hbu))); (try (replace HM1 := hid (HM1.out.below hbu))); (try (replace HM2 := hid (HM2.out.below hbu))); (try (replace HM3 := hid (HM3.out.below hbu))); (try (replace HM4 := hid (HM4.out.below hbu))); (try (replace HM5 := hid (HM5.out.below hbu))); (try (replace HM6 := hid (HM6.out.below hbu))); clear hbu hb; have HM2 := hid hv; clear hv) | (go_at_call 19; (with_reducible refine (op_lit 18 [opF 11 [isF sR 1]] ?_ ?_).mono ?_); rfl; (first | exact lit_slice1 (HM2.out.below (by first | exact Below.refl _ _ | go_grown)) (at_new _ _ _ rfl) | exact lit_slice1 (HM2.out.below (by first | exact Below.refl _ _ | go_grown)) (at_new _ _ _ (by (simp; done))) | exact lit_slice1 (HM2.out.below (by first | exact Below.refl _ _ | go_grown)) ((at_old _ _ _ (by (simp; done))).trans (at_new _ _ _ rfl)) | exact lit_slice1 (HM2.out.below (by first | exact Below.refl _ _ | go_grown)) ((at_old _ _ _ (by (simp; done))).trans (at_new _ _ _ (by (simp; done))))); rintro e U ⟨rfl, hv, hb⟩; have hbu := nx_of HB.out (by first | exact Below.refl _ _ | go_grown) hb; replace HG := hid (HG.out.nx hbu); replace HK := hid (HK.out.nx hbu); replace HB := hid (belNx HB.out hbu); replace HX := hid (HX.out.belowD hbu); (try (replace HF2 := hid (HF2.out.below hbu))); (try (replace HO2 := hid (HO2.out.below hbu))); (try (replace HM1 := hid (HM1.out.below hbu))); (try (replace HM2 := hid (HM2.out.below hbu))); (try (replace HM3 := hid (HM3.out.below hbu))); (try (replace HM4 := hid (HM4.out.below hbu))); (try (replace HM5 := hid (HM5.out.below hbu))); (try (replace HM6 := hid (HM6.out.below hbu))); clear hbu hb; have HM3 := hid hv; clear hv) | (go_at_call 25; (with_reducible refine (is_lit ⟨#[109]⟩ 0 _).mono ?_); rintro e U ⟨rfl, hv, hb⟩; have hbu := nx_of HB.out (by first | exact Below.refl _ _ | go_grown) hb; replace HG := hid (HG.out.nx hbu); replace HK := hid (HK.out.nx hbu); replace HB := hid (belNx HB.out hbu); replace HX := hid (HX.out.belowD hbu); (try (replace HF2 := hid (HF2.out.below hbu))); (try (replace HO2 := hid (HO2.out.below hbu))); (try (replace HM1 := hid (HM1.out.below hbu))); (try (replace HM2 := hid (HM2.out.below hbu))); (try (replace HM3 := hid (HM3.out.below hbu))); (try (replace HM4 := hid (HM4.out.below hbu))); (try (replace HM5 := hid (HM5.out.below hbu))); (try (replace HM6 := hid (HM6.out.below hbu))); clear hbu hb; have HM4 := hid hv; clear hv) | (go_at_call 19; (with_reducible refine (op_lit 7 [opF 18 [opF 11 [isF sR 1]], isF sM 0] ?_ ?_).mono ?_); rfl; (first | exact lit_slice2 (HM3.out.below (by first | exact Below.refl _ _ | go_grown)) (HM4.out.below (by first | exact Below.refl _ _ | go_grown)) (at_new _ _ _ rfl) | exact lit_slice2 (HM3.out.below (by first | exact Below.refl _ _ | go_grown)) (HM4.out.below (by first | exact Below.refl _ _ | go_grown)) (at_new _ _ _ (by (simp; done))) | exact lit_slice2 (HM3.out.below (by first | exact Below.refl _ _ | go_grown)) (HM4.out.below (by first | exact Below.refl _ _ | go_grown)) ((at_old _ _ _ (by (simp; done))).trans (at_new _ _ _ rfl)) | exact lit_slice2 (HM3.out.below (by first | exact Below.refl _ _ | go_grown)) (HM4.out.below (by first | exact Below.refl _ _ | go_grown)) ((at_old _ _ _ (by (simp; done))).trans (at_new _ _ _ (by (simp; done))))); rintro e U ⟨rfl, hv, hb⟩; have hbu := nx_of HB.out (by first | exact Below.refl _ _ | go_grown) hb; replace HG := hid (HG.out.nx hbu); replace HK := hid (HK.out.nx hbu); replace HB := hid (belNx HB.out hbu); replace HX := hid (HX.out.belowD hbu); (try (replace HF2 := hid (HF2.out.below hbu))); (try (replace HO2 := hid (HO2.out.below hbu))); (try (replace HM1 := hid (HM1.out.below hbu))); (try (replace HM2 := hid (HM2.out.below hbu))); (try (replace HM3 := hid (HM3.out.below hbu))); (try (replace HM4 := hid (HM4.out.below hbu))); (try (replace HM5 := hid (HM5.out.below hbu))); (try (replace HM6 := hid (HM6.out.below hbu))); clear hbu hb; have HM5 := hid hv; clear hv) | (go_at_call 19; (with_reducible refine (op_lit 12 [opF 7 [opF 18 [opF 11 [isF sR 1]], isF sM 0]] ?_ ?_).mono ?_); rfl; (first | exact lit_slice1 (HM5.out.below (by first | exact Below.refl _ _ | go_grown)) (at_new _ _ _ rfl) | exact lit_slice1 (HM5.out.below (by first | exact Below.refl _ _ | go_grown)) (at_new _ _ _ (by (simp; done))) | exact lit_slice1 (HM5.out.below (by first | exact Below.refl _ _ | go_grown)) ((at_old _ _ _ (by (simp; done))).trans (at_new _ _ _ rfl)) | exact lit_slice1 (HM5.out.below (by first | exact Below.refl _ _ | go_grown)) ((at_old _ _ _ (by (simp; done))).trans (at_new _ _ _ (by (simp; done))))); rintro e U ⟨rfl, hv, hb⟩; have hbu := nx_of HB.out (by first | exact Below.refl _ _ | go_grown) hb; replace HG := hid (HG.out.nx hbu); replace HK := hid (HK.out.nx hbu); replace HB := hid (belNx HB.out hbu); replace HX := hid (HX.out.belowD hbu); (try (replace HF2 := hid (HF2.out.below hbu))); (try (replace HO2 := hid (HO2.out.below hbu))); (try (replace HM1 := hid (HM1.out.below hbu))); (try (replace HM2 := hid (HM2.out.below hbu))); (try (replace HM3 := hid (HM3.out.below hbu))); (try (replace HM4 := hid (HM4.out.below hbu))); (try (replace HM5 := hid (HM5.out.below hbu))); (try (replace HM6 := hid (HM6.out.below hbu))); clear hbu hb; have HM6 := hid hv; clear hv))
  refine wp_gen fun W hW => ?_
  have hb : Below U.heap.size U W := by rw [hW]; go_grown
  obtain ⟨A3, HF3, HO3⟩ : ∃ A3, Hid (VF W 12 ⟨#[]⟩ 0 0 A3 1 1 exMixed) ∧ Hid (OB W U.heap.size 12 ⟨#[]⟩ 0 0 A3 1 1) := ⟨_, HM6.out.below hb, by rw [hW]; exact at_new _ _ _ rfl⟩
  have hbu := hb
  replace HG := hid (HG.out.nx hbu)
  replace HK := hid (HK.out.nx hbu)
  replace HB := hid (belNx HB.out hbu)
  replace HX := hid (HX.out.belowD hbu)
  (try (replace HF2 := hid (HF2.out.below hbu)))
  (try (replace HO2 := hid (HO2.out.below hbu)))
  clear hW hb hbu HM1 HM2 HM3 HM4 HM5 HM6
  obtain ⟨b3, hb3⟩ : ∃ b3, b3 = U.heap.size := ⟨_, rfl⟩
  rw [← hb3] at HO3 ⊢
  clear hb3
  rename World => W
  obtain ⟨x0, x1, x2, x3, x4, x5⟩ := HO2.out.cells
  obtain ⟨y0, y1, y2, y3, y4, y5⟩ := HO3.out.cells
  go_upto_region 5 with (first | (go_at_call 26; (with_reducible refine (responds_lit ⟨#[109]⟩ 2 _).mono ?_); rintro e U ⟨AHR1, cHR1, rfl, hv, hb⟩; have hbu := nx_of HB.out (by first | exact Below.refl _ _ | go_grown) hb; replace HG := hid (HG.out.nx hbu); replace HK := hid (HK.out.nx hbu); replace HB := hid (belNx HB.out hbu); replace HX := hid (HX.out.belowD hbu); (try (replace HF2 := hid (HF2.out.below hbu))); (try (replace HO2 := hid (HO2.out.below hbu))); (try (replace HF3 := hid (HF3.out.below hbu))); (try (replace HO3 := hid (HO3.out.below hbu))); (try (replace HR1 := hid (HR1.out.below hbu))); (try (replace HR2 := hid (HR2.out.below hbu))); (try (replace HR3 := hid (HR3.out.below hbu))); clear hbu hb; have HR1 := hid hv; clear hv; clear x0 x1 x2 x3 x4 x5 y0 y1 y2 y3 y4 y5; obtain ⟨x0, x1, x2, x3, x4, x5⟩ := HO2.out.cells; obtain ⟨y0, y1, y2, y3, y4, y5⟩ := HO3.out.cells) | (go_at_call 10; (with_reducible refine (typform_lit (D := AnyD) (f := respF sM 2) (l := exL) 0 ?_ ?_ ?_ ?_ ?_ ?_).mono ?_); exact ex_resp; (first | exact HR1.out | exact HR1.out.below (by go_grown)); (first | exact HX.out | exact HX.out.below (by go_grown)); rfl; (first | exact HG.out | exact HG.out.nx (by go_grown)); (first | exact HK.out | exact HK.out.nx (by go_grown)); rintro e U ⟨rfl, hb⟩; have hbu := nx_of HB.out (by first | exact Below.refl _ _ | go_grown) hb; replace HG := hid (HG.out.nx hbu); replace HK := hid (HK.out.nx hbu); replace HB := hid (belNx HB.out hbu); replace HX := hid (HX.out.belowD hbu); (try (replace HF2 := hid (HF2.out.below hbu))); (try (replace HO2 := hid (HO2.out.below hbu))); (try (replace HF3 := hid (HF3.out.below hbu))); (try (replace HO3 := hid (HO3.out.below hbu))); (try (replace HR1 := hid (HR1.out.below hbu))); (try (replace HR2 := hid (HR2.out.below hbu))); (try (replace HR3 := hid (HR3.out.below hbu))); clear hbu hb; clear x0 x1 x2 x3 x4 x5 y0 y1 y2 y3 y4 y5; obtain ⟨x0, x1, x2, x3, x4, x5⟩ := HO2.out.cells; obtain ⟨y0, y1, y2, y3, y4, y5⟩ := HO3.out.cells) | (go_at_call 26; (with_reducible refine (responds_lit ⟨#[109]⟩ 3 _).mono ?_); rintro e U ⟨AHR2, cHR2, rfl, hv, hb⟩; have hbu := nx_of HB.out (by first | exact Below.refl _ _ | go_grown) hb; replace HG := hid (HG.out.nx hbu); replace HK := hid (HK.out.nx hbu); replace HB := hid (belNx HB.out hbu); replace HX := hid (HX.out.belowD hbu); (try (replace HF2 := hid (HF2.out.below hbu))); (try (replace HO2 := hid (HO2.out.below hbu))); (try (replace HF3 := hid (HF3.out.below hbu))); (try (replace HO3 := hid (HO3.out.below hbu))); (try (replace HR1 := hid (HR1.out.below hbu))); (try (replace HR2 := hid (HR2.out.below hbu))); (try (replace HR3 := hid (HR3.out.below hbu))); clear hbu hb; have HR2 := hid hv; clear hv; clear x0 x1 x2 x3 x4 x5 y0 y1 y2 y3 y4 y5; obtain ⟨x0, x1, x2, x3, x4, x5⟩ := HO2.out.cells; obtain ⟨y0, y1, y2, y3, y4, y5⟩ := HO3.out.cells) | (go_at_call 10; (with_reducible refine (typform_lit (D := AnyD) (f := respF sM 3) (l := exL) 71 ?_ ?_ ?_ ?_ ?_ ?_).mono ?_); exact ex_resp3; (first | exact HR2.out | exact HR2.out.below (by go_grown)); (first | exact HX.out | exact HX.out.below (by go_grown)); rfl; (first | exact HG.out | exact HG.out.nx (by go_grown)); (first | exact HK.out | exact HK.out.nx (by go_grown)); rintro e U ⟨rfl, hb⟩; have hbu := nx_of HB.out (by first | exact Below.refl _ _ | go_grown) hb; replace HG := hid (HG.out.nx hbu); replace HK := hid (HK.out.nx hbu); replace HB := hid (belNx HB.out hbu); replace HX := hid (HX.out.belowD hbu); (try (replace HF2 := hid (HF2.out.below hbu))); (try (replace HO2 := hid (HO2.out.below hbu))); (try (replace HF3 := hid (HF3.out.below hbu))); (try (replace HO3 := hid (HO3.out.below hbu))); (try (replace HR1 := hid (HR1.out.below hbu))); (try (replace HR2 := hid (HR2.out.below hbu))); (try (replace HR3 := hid (HR3.out.below hbu))); clear hbu hb; clear x0 x1 x2 x3 x4 x5 y0 y1 y2 y3 y4 y5; obtain ⟨x0, x1, x2, x3, x4, x5⟩ := HO2.out.cells; obtain ⟨y0, y1, y2, y3, y4, y5⟩ := HO3.out.cells) | (go_at_call 26; (with_reducible refine (responds_lit ⟨#[113]⟩ 0 _).mono ?_); rintro e U ⟨AHR3, cHR3, rfl, hv, hb⟩; have hbu := nx_of HB.out (by first | exact Below.refl _ _ | go_grown) hb; replace HG := hid (HG.out.nx hbu); replace HK := hid (HK.out.nx hbu); replace HB := hid (belNx HB.out hbu); replace HX := hid (HX.out.belowD hbu); (try (replace HF2 := hid (HF2.out.below hbu))); (try (replace HO2 := hid (HO2.out.below hbu))); (try (replace HF3 := hid (HF3.out.below hbu))); (try (replace HO3 := hid (HO3.out.below hbu))); (try (replace HR1 := hid (HR1.out.below hbu))); (try (replace HR2 := hid (HR2.out.below hbu))); (try (replace HR3 := hid (HR3.out.below hbu))); clear hbu hb; have HR3 := hid hv; clear hv; clear x0 x1 x2 x3 x4 x5 y0 y1 y2 y3 y4 y5; obtain ⟨x0, x1, x2, x3, x4, x5⟩ := HO2.out.cells; obtain ⟨y0, y1, y2, y3, y4, y5⟩ := HO3.out.cells) | (go_at_call 10; (with_reducible refine (typform_lit (D := AnyD) (f := respF sQ 0) (l := exL) 70 ?_ ?_ ?_ ?_ ?_ ?_).mono ?_); exact ex_respQ; (first | exact HR3.out | exact HR3.out.below (by go_grown)); (first | exact HX.out | exact HX.out.below (by go_grown)); rfl; (first | exact HG.out | exact HG.out.nx (by go_grown)); (first | exact HK.out | exact HK.out.nx (by go_grown)); rintro e U ⟨rfl, hb⟩; have hbu := nx_of HB.out (by first | exact Below.refl _ _ | go_grown) hb; replace HG := hid (HG.out.nx hbu); replace HK := hid (HK.out.nx hbu); replace HB := hid (belNx HB.out hbu); replace HX := hid (HX.out.belowD hbu); (try (replace HF2 := hid (HF2.out.below hbu))); (try (replace HO2 := hid (HO2.out.below hbu))); (try (replace HF3 := hid (HF3.out.below hbu))); (try (replace HO3 := hid (HO3.out.below hbu))); (try (replace HR1 := hid (HR1.out.below hbu))); (try (replace HR2 := hid (HR2.out.below hbu))); (try (replace HR3 := hid (HR3.out.below hbu))); clear hbu hb; clear x0 x1 x2 x3 x4 x5 y0 y1 y2 y3 y4 y5; obtain ⟨x0, x1, x2, x3, x4, x5⟩ := HO2.out.cells; obtain ⟨y0, y1, y2, y3, y4, y5⟩ := HO3.out.cells) | (go_at_call 10; (with_reducible refine (typform_lit (D := AnyD) (f := exMixed) (l := exL) 72 ?_ ?_ ?_ ?_ ?_ ?_).mono ?_); exact ex_mixed; (first | exact HF3.out | exact HF3.out.below (by go_grown)); (first | exact HX.out | exact HX.out.below (by go_grown)); rfl; (first | exact HG.out | exact HG.out.nx (by go_grown)); (first | exact HK.out | exact HK.out.nx (by go_grown)); rintro e U ⟨rfl, hb⟩; have hbu := nx_of HB.out (by first | exact Below.refl _ _ | go_grown) hb; replace HG := hid (HG.out.nx hbu); replace HK := hid (HK.out.nx hbu); replace HB := hid (belNx HB.out hbu); replace HX := hid (HX.out.belowD hbu); (try (replace HF2 := hid (HF2.out.below hbu))); (try (replace HO2 := hid (HO2.out.below hbu))); (try (replace HF3 := hid (HF3.out.below hbu))); (try (replace HO3 := hid (HO3.out.below hbu))); (try (replace HR1 := hid (HR1.out.below hbu))); (try (replace HR2 := hid (HR2.out.below hbu))); (try (replace HR3 := hid (HR3.out.below hbu))); clear hbu hb; clear x0 x1 x2 x3 x4 x5 y0 y1 y2 y3 y4 y5; obtain ⟨x0, x1, x2, x3, x4, x5⟩ := HO2.out.cells; obtain ⟨y0, y1, y2, y3, y4, y5⟩ := HO3.out.cells) | (go_at_call 10; (with_reducible refine (typform_lit (D := AnyD) (f := exLate) (l := exL) 2 ?_ ?_ ?_ ?_ ?_ ?_).mono ?_); exact ex_late; (first | exact HF2.out | exact HF2.out.below (by go_grown)); (first | exact HX.out | exact HX.out.below (by go_grown)); rfl; (first | exact HG.out | exact HG.out.nx (by go_grown)); (first | exact HK.out | exact HK.out.nx (by go_grown)); rintro e U ⟨rfl, hb⟩; have hbu := nx_of HB.out (by first | exact Below.refl _ _ | go_grown) hb; replace HG := hid (HG.out.nx hbu); replace HK := hid (HK.out.nx hbu); replace HB := hid (belNx HB.out hbu); replace HX := hid (HX.out.belowD hbu); (try (replace HF2 := hid (HF2.out.below hbu))); (try (replace HO2 := hid (HO2.out.below hbu))); (try (replace HF3 := hid (HF3.out.below hbu))); (try (replace HO3 := hid (HO3.out.below hbu))); (try (replace HR1 := hid (HR1.out.below hbu))); (try (replace HR2 := hid (HR2.out.below hbu))); (try (replace HR3 := hid (HR3.out.below hbu))); clear hbu hb; clear x0 x1 x2 x3 x4 x5 y0 y1 y2 y3 y4 y5; obtain ⟨x0, x1, x2, x3, x4, x5⟩ := HO2.out.cells; obtain ⟨y0, y1, y2, y3, y4, y5⟩ := HO3.out.cells) | (go_at_call 10; (with_reducible refine (typform_lit (D := AnyD) (f := exLate) (l := []) 1 ?_ ?_ ?_ ?_ ?_ ?_).mono ?_); exact ex_nil; (first | exact HF2.out | exact HF2.out.below (by go_grown)); exact RdG.nil _ AnyD none (by omega); rfl; (first | exact HG.out | exact HG.out.nx (by go_grown)); (first | exact HK.out | exact HK.out.nx (by go_grown)); rintro e U ⟨rfl, hb⟩; have hbu := nx_of HB.out (by first | exact Below.refl _ _ | go_grown) hb; replace HG := hid (HG.out.nx hbu); replace HK := hid (HK.out.nx hbu); replace HB := hid (belNx HB.out hbu); replace HX := hid (HX.out.belowD hbu); (try (replace HF2 := hid (HF2.out.below hbu))); (try (replace HO2 := hid (HO2.out.below hbu))); (try (replace HF3 := hid (HF3.out.below hbu))); (try (replace HO3 := hid (HO3.out.below hbu))); (try (replace HR1 := hid (HR1.out.below hbu))); (try (replace HR2 := hid (HR2.out.below hbu))); (try (replace HR3 := hid (HR3.out.below hbu))); clear hbu hb; clear x0 x1 x2 x3 x4 x5 y0 y1 y2 y3 y4 y5; obtain ⟨x0, x1, x2, x3, x4, x5⟩ := HO2.out.cells; obtain ⟨y0, y1, y2, y3, y4, y5⟩ := HO3.out.cells) | (go_at_call 10; (with_reducible refine (typform_lit (D := AnyD) (f := zeroF) (l := exL) 30 ?_ ?_ ?_ ?_ ?_ ?_).mono ?_); exact ex_zero; exact ⟨[], rfl, rfl, RdA.nil _ _ _ (by omega)⟩; (first | exact HX.out | exact HX.out.below (by go_grown)); rfl; (first | exact HG.out | exact HG.out.nx (by go_grown)); (first | exact HK.out | exact HK.out.nx (by go_grown)); rintro e U ⟨rfl, hb⟩; have hbu := nx_of HB.out (by first | exact Below.refl _ _ | go_grown) hb; replace HG := hid (HG.out.nx hbu); replace HK := hid (HK.out.nx hbu); replace HB := hid (belNx HB.out hbu); replace HX := hid (HX.out.belowD hbu); (try (replace HF2 := hid (HF2.out.below hbu))); (try (replace HO2 := hid (HO2.out.below hbu))); (try (replace HF3 := hid (HF3.out.below hbu))); (try (replace HO3 := hid (HO3.out.below hbu))); (try (replace HR1 := hid (HR1.out.below hbu))); (try (replace HR2 := hid (HR2.out.below hbu))); (try (replace HR3 := hid (HR3.out.below hbu))); clear hbu hb; clear x0 x1 x2 x3 x4 x5 y0 y1 y2 y3 y4 y5; obtain ⟨x0, x1, x2, x3, x4, x5⟩ := HO2.out.cells; obtain ⟨y0, y1, y2, y3, y4, y5⟩ := HO3.out.cells))
  clear x0 x1 x2 x3 x4 x5 y0 y1 y2 y3 y4 y5
  (try clear HR1 HR2 HR3)
  (try clear HR1 HR2 HR3)
  clear HF2 HO2 HF3 HO3
  rename World => W
  go_upto_region 6 with (first | (go_at_call 25; (with_reducible refine (is_lit ⟨#[114]⟩ 0 _).mono ?_); rintro e U ⟨rfl, hv, hb⟩; have hbu := nx_of HB.out (by first | exact Below.refl _ _ | go_grown) hb; replace HG := hid (HG.out.nx hbu); replace HK := hid (HK.out.nx hbu); replace HB := hid (belNx HB.out hbu); replace HX := hid (HX.out.belowD hbu); clear hbu hb; clear hv) | (go_at_call 25; (with_reducible refine (is_lit ⟨#[109]⟩ 1 _).mono ?_); rintro e U ⟨rfl, hv, hb⟩; have hbu := nx_of HB.out (by first | exact Below.refl _ _ | go_grown) hb; replace HG := hid (HG.out.nx hbu); replace HK := hid (HK.out.nx hbu); replace HB := hid (belNx HB.out hbu); replace HX := hid (HX.out.belowD hbu); clear hbu hb; clear hv))
  refine wp_gen fun W hW => ?_
  have hb : Below U.heap.size U W := by rw [hW]; go_grown
  have HQ := hid (show W.heap[U.heap.size]? = some (.cells #[.string ⟨#[112]⟩, .string ⟨#[97]⟩, .int .i64 1, .int .i64 3, .string ⟨#[114]⟩, .int .i64 0, .int .i64 0, .slice none 0 0, .string ⟨#[112]⟩, .string ⟨#[97]⟩, .int .i64 2, .int .i64 3, .string ⟨#[109]⟩, .int .i64 1, .int .i64 0, .slice none 0 0, .string ⟨#[112]⟩, .string ⟨#[103]⟩, .int .i64 3, .int .i64 3, .string ⟨#[109]⟩, .int .i64 1, .int .i64 0, .slice none 0 0] 54 (0, 0)) by rw [hW, at_old _ _ _ (by simp)]; exact at_new _ _ _ rfl)
  have HS := hid (show SpecAt W (U.heap.size + 1) (some ⟨kb, 0, none⟩) 2 2 (some ⟨U.heap.size, 0, none⟩) 3 3 by show W.heap[_]? = _; rw [hW]; exact at_new _ _ _ (by simp))
  have HBU := hid HB.out.size
  have HX5 := hid (show RdG W (· < U.heap.size) (some ⟨kb, 0, none⟩) 2 exL from (HX.out.old).belowD hb)
  have hbu := hb
  replace HG := hid (HG.out.nx hbu)
  replace HK := hid (HK.out.nx hbu)
  replace HB := hid (belNx HB.out hbu)
  clear hW hb hbu HX
  have HX := HX5
  clear HX5
  obtain ⟨qb, hqb⟩ : ∃ qb, qb = U.heap.size := ⟨_, rfl⟩
  rw [← hqb] at HQ HS HX ⊢
  have HQB := hid (show w.heap.size ≤ qb by rw [hqb]; exact HBU.out)
  clear hqb
  rename World => W
  have HRD := hid (show RdR W AnyD (some ⟨qb, 0, none⟩) 3 exR3 from rdR_lit exR3 [] HQ.out rfl rfl (by decide) (by decide) (by decide) (fun r hr => by simp only [exR3, List.mem_cons, List.not_mem_nil, or_false] at hr; rcases hr with rfl | rfl | rfl <;> rfl))
  obtain ⟨s0, s1, s2⟩ := HS.out.cells
  have HQ5 := HQ
  go_upto_region 7 with (go_at_call 8; (with_reducible refine (goal_lit (D := (· < qb)) (E := AnyD) (l := exL) (rs := exR3) zeroF 4 ?_ ?_ ?_ ?_ ?_ ?_ ?_).mono ?_); exact ex_twice; rfl; (first | exact HX.out | exact HX.out.below (by go_grown)); rfl; (first | exact HRD.out | exact HRD.out.below (by go_grown)); (first | exact HG.out | exact HG.out.nx (by go_grown)); (first | exact HK.out | exact HK.out.nx (by go_grown)); rintro e U ⟨A6, c6, rfl, hv, hb⟩; have hbu := nx_of HB.out (by first | exact Below.refl _ _ | go_grown) hb; replace HG := hid (HG.out.nx hbu); replace HK := hid (HK.out.nx hbu); replace HB := hid (belNx HB.out hbu); replace HX := hid (HX.out.belowD hbu); (try (replace HS := hid (HS.out.below hbu))); (try (replace HRD := hid (HRD.out.below hbu))); replace HQ := hid ((hbu.block _ (lt_of_block HQ.out)).trans HQ.out); clear hbu hb; clear hv; clear s0 s1 s2; obtain ⟨s0, s1, s2⟩ := HS.out.cells)
  refine wp_gen fun W hW => ?_
  have hb : Below U.heap.size U W := by rw [hW]; go_grown
  have hbu := hb
  replace HG := hid (HG.out.nx hbu)
  replace HK := hid (HK.out.nx hbu)
  replace HB := hid (belNx HB.out hbu)
  replace HX := hid (HX.out.belowD hbu)
  (try (replace HS := hid (HS.out.below hbu)))
  (try (replace HRD := hid (HRD.out.below hbu)))
  replace HQ := hid ((hbu.block _ (lt_of_block HQ.out)).trans HQ.out)
  clear hW hb hbu s0 s1 s2 HRD HQ5
  rename World => W
  obtain ⟨s0, s1, s2⟩ := HS.out.cells
  have s3 := block_free HS.out (i := 1)
  have q0 := block_cell HQ.out (i := 9) rfl
  have q1 := block_free HQ.out (i := 9)
  have q2 := lt_of_block HQ.out
  go_upto_region 9 with (fail)
  refine wp_gen fun W2 hW => ?_
  have hC : Chg (fun k => k = qb ∨ k = qb + 1) W W2 := by
    rw [hW]
    exact ((Chg.refl _ _).set ⟨qb, 9, none⟩ _ fun _ => .inl rfl).set ⟨qb + 1, 1, none⟩ _ fun _ => .inr rfl
  have hQ2 : W2.heap[qb]? = some (.cells #[.string ⟨#[112]⟩, .string ⟨#[97]⟩, .int .i64 1, .int .i64 3, .string ⟨#[114]⟩, .int .i64 0, .int .i64 0, .slice none 0 0, .string ⟨#[112]⟩, .string ⟨#[98]⟩, .int .i64 2, .int .i64 3, .string ⟨#[109]⟩, .int .i64 1, .int .i64 0, .slice none 0 0, .string ⟨#[112]⟩, .string ⟨#[103]⟩, .int .i64 3, .int .i64 3, .string ⟨#[109]⟩, .int .i64 1, .int .i64 0, .slice none 0 0] 54 (0, 0)) := by
    rw [hW, Below.heap_setCell _ _ _ _ (by show qb ≠ qb + 1; omega), set_block HQ.out]; rfl
  have hS2 : SpecAt W2 (qb + 1) (some ⟨kb, 0, none⟩) 2 2 (some ⟨qb, 0, none⟩) 2 3 := by
    show W2.heap[_]? = _
    have h1 : (W.setCell ⟨qb, 9, none⟩ (.string ⟨#[98]⟩)).heap[qb + 1]? = some (.cells #[.slice (some ⟨kb, 0, none⟩) 2 2, .slice (some ⟨qb, 0, none⟩) 3 3] 25 (0, 0)) := (Below.heap_setCell _ _ _ _ (by show qb + 1 ≠ qb; omega)).trans HS.out
    rw [hW, set_block h1]; rfl
  have hB2 : Below w.heap.size w W2 := HB.out.trans (hC.below (B := w.heap.size) (fun k hk e => by have := HQB.out; omega) HB.out.size)
  have HX2 := hid (show RdG W2 (· < qb) (some ⟨kb, 0, none⟩) 2 exL from HX.out.keep (hC.keeps fun k _ (hk : k < qb) e => by omega))
  have HRD := hid (show RdR W2 AnyD (some ⟨qb, 0, none⟩) 3 exR2 from rdR_lit (n := 2) exR2 [.string ⟨#[112]⟩, .string ⟨#[103]⟩, .int .i64 3, .int .i64 3, .string ⟨#[109]⟩, .int .i64 1, .int .i64 0, .slice none 0 0] hQ2 rfl rfl (by decide) (by decide) (by decide) (fun r hr => by simp only [exR2, List.mem_cons, List.not_mem_nil, or_false] at hr; rcases hr with rfl | rfl <;> rfl))
  clear HX HS HQ HG HK HB s0 s1 s2 s3 q0 q1 q2 hC
  have HX := HX2
  have HS := hid hS2
  have HG := hid (HG0.out.below hB2 HG0.out.pos)
  have HK := hid (HK0.out.below hB2 HK0.out.pos)
  have HB := hid hB2
  clear hS2 hB2 HX2 hW hQ2
  rename World => W
  obtain ⟨s0, s1, s2⟩ := HS.out.cells
  go_upto_region 10 with (go_at_call 8; (with_reducible refine (goal_lit (D := (· < qb)) (E := AnyD) (l := exL) (rs := exR2) exW 0 ?_ ?_ ?_ ?_ ?_ ?_ ?_).mono ?_); exact ex_goal; rfl; (first | exact HX.out | exact HX.out.below (by go_grown)); rfl; (first | exact HRD.out | exact HRD.out.below (by go_grown)); (first | exact HG.out | exact HG.out.nx (by go_grown)); (first | exact HK.out | exact HK.out.nx (by go_grown)); rintro e U ⟨A8, c8, rfl, hv, hb⟩; have hbu := nx_of HB.out (by first | exact Below.refl _ _ | go_grown) hb; replace HG := hid (HG.out.nx hbu); replace HK := hid (HK.out.nx hbu); replace HB := hid (belNx HB.out hbu); replace HX := hid (HX.out.belowD hbu); (try (replace HS := hid (HS.out.below hbu))); (try (replace HRD := hid (HRD.out.below hbu))); (try (replace HF8 := hid (HF8.out.below hbu))); clear hbu hb; have HF8 := hid hv; clear hv; clear s0 s1 s2; obtain ⟨s0, s1, s2⟩ := HS.out.cells)
  refine wp_gen fun W hW => ?_
  have hb : Below U.heap.size U W := by rw [hW]; go_grown
  have HO8 := hid (show OB W U.heap.size exW.op exW.name exW.val exW.bound A8 exW.args.length c8 by rw [hW]; exact at_new _ _ _ rfl)
  have hbu := hb
  replace HG := hid (HG.out.nx hbu)
  replace HK := hid (HK.out.nx hbu)
  replace HB := hid (belNx HB.out hbu)
  replace HX := hid (HX.out.belowD hbu)
  (try (replace HS := hid (HS.out.below hbu)))
  (try (replace HRD := hid (HRD.out.below hbu)))
  (try (replace HF8 := hid (HF8.out.below hbu)))
  clear hW hb hbu s0 s1 s2
  obtain ⟨b8, hb8⟩ : ∃ b8, b8 = U.heap.size := ⟨_, rfl⟩
  rw [← hb8] at HO8 ⊢
  clear hb8
  rename World => W
  obtain ⟨s0, s1, s2⟩ := HS.out.cells
  go_upto_region 11 with (first | (go_at_call 25; (with_reducible refine (is_lit ⟨#[114]⟩ 0 _).mono ?_); rintro e U ⟨rfl, hv, hb⟩; have hbu := nx_of HB.out (by first | exact Below.refl _ _ | go_grown) hb; replace HG := hid (HG.out.nx hbu); replace HK := hid (HK.out.nx hbu); replace HB := hid (belNx HB.out hbu); replace HX := hid (HX.out.belowD hbu); (try (replace HS := hid (HS.out.below hbu))); (try (replace HRD := hid (HRD.out.below hbu))); (try (replace HF8 := hid (HF8.out.below hbu))); (try (replace HO8 := hid (HO8.out.below hbu))); (try (replace HZ1 := hid (HZ1.out.below hbu))); (try (replace HZ2 := hid (HZ2.out.below hbu))); (try (replace HZ3 := hid (HZ3.out.below hbu))); (try (replace HF9 := hid (HF9.out.below hbu))); clear hbu hb; have HZ1 := hid hv; clear hv; clear s0 s1 s2; obtain ⟨s0, s1, s2⟩ := HS.out.cells) | (go_at_call 19; (with_reducible refine (op_lit 4 [isF sR 0] ?_ ?_).mono ?_); rfl; (first | exact lit_slice1 (HZ1.out.below (by first | exact Below.refl _ _ | go_grown)) (at_new _ _ _ rfl) | exact lit_slice1 (HZ1.out.below (by first | exact Below.refl _ _ | go_grown)) (at_new _ _ _ (by (simp; done))) | exact lit_slice1 (HZ1.out.below (by first | exact Below.refl _ _ | go_grown)) ((at_old _ _ _ (by (simp; done))).trans (at_new _ _ _ rfl)) | exact lit_slice1 (HZ1.out.below (by first | exact Below.refl _ _ | go_grown)) ((at_old _ _ _ (by (simp; done))).trans (at_new _ _ _ (by (simp; done))))); rintro e U ⟨rfl, hv, hb⟩; have hbu := nx_of HB.out (by first | exact Below.refl _ _ | go_grown) hb; replace HG := hid (HG.out.nx hbu); replace HK := hid (HK.out.nx hbu); replace HB := hid (belNx HB.out hbu); replace HX := hid (HX.out.belowD hbu); (try (replace HS := hid (HS.out.below hbu))); (try (replace HRD := hid (HRD.out.below hbu))); (try (replace HF8 := hid (HF8.out.below hbu))); (try (replace HO8 := hid (HO8.out.below hbu))); (try (replace HZ1 := hid (HZ1.out.below hbu))); (try (replace HZ2 := hid (HZ2.out.below hbu))); (try (replace HZ3 := hid (HZ3.out.below hbu))); (try (replace HF9 := hid (HF9.out.below hbu))); clear hbu hb; have HZ2 := hid hv; clear hv; clear s0 s1 s2; obtain ⟨s0, s1, s2⟩ := HS.out.cells) | (go_at_call 25; (with_reducible refine (is_lit ⟨#[109]⟩ 1 _).mono ?_); rintro e U ⟨rfl, hv, hb⟩; have hbu := nx_of HB.out (by first | exact Below.refl _ _ | go_grown) hb; replace HG := hid (HG.out.nx hbu); replace HK := hid (HK.out.nx hbu); replace HB := hid (belNx HB.out hbu); replace HX := hid (HX.out.belowD hbu); (try (replace HS := hid (HS.out.below hbu))); (try (replace HRD := hid (HRD.out.below hbu))); (try (replace HF8 := hid (HF8.out.below hbu))); (try (replace HO8 := hid (HO8.out.below hbu))); (try (replace HZ1 := hid (HZ1.out.below hbu))); (try (replace HZ2 := hid (HZ2.out.below hbu))); (try (replace HZ3 := hid (HZ3.out.below hbu))); (try (replace HF9 := hid (HF9.out.below hbu))); clear hbu hb; have HZ3 := hid hv; clear hv; clear s0 s1 s2; obtain ⟨s0, s1, s2⟩ := HS.out.cells) | (go_at_call 27; (with_reducible refine (or_lit (l := [opF 4 [isF sR 0], isF sM 1]) exW ?_ ?_ ?_ ?_ ?_ ?_).mono ?_); rfl; (first | exact lit_slice2 (HZ2.out.below (by first | exact Below.refl _ _ | go_grown)) (HZ3.out.below (by first | exact Below.refl _ _ | go_grown)) (at_new _ _ _ rfl) | exact lit_slice2 (HZ2.out.below (by first | exact Below.refl _ _ | go_grown)) (HZ3.out.below (by first | exact Below.refl _ _ | go_grown)) (at_new _ _ _ (by (simp; done))) | exact lit_slice2 (HZ2.out.below (by first | exact Below.refl _ _ | go_grown)) (HZ3.out.below (by first | exact Below.refl _ _ | go_grown)) ((at_old _ _ _ (by (simp; done))).trans (at_new _ _ _ rfl)) | exact lit_slice2 (HZ2.out.below (by first | exact Below.refl _ _ | go_grown)) (HZ3.out.below (by first | exact Below.refl _ _ | go_grown)) ((at_old _ _ _ (by (simp; done))).trans (at_new _ _ _ (by (simp; done))))); rfl; decide; (first | exact HG.out | exact HG.out.nx (by go_grown)); (first | exact HK.out | exact HK.out.nx (by go_grown)); rintro e U ⟨A9, c9, rfl, hv, hb⟩; have hbu := nx_of HB.out (by first | exact Below.refl _ _ | go_grown) hb; replace HG := hid (HG.out.nx hbu); replace HK := hid (HK.out.nx hbu); replace HB := hid (belNx HB.out hbu); replace HX := hid (HX.out.belowD hbu); (try (replace HS := hid (HS.out.below hbu))); (try (replace HRD := hid (HRD.out.below hbu))); (try (replace HF8 := hid (HF8.out.below hbu))); (try (replace HO8 := hid (HO8.out.below hbu))); (try (replace HZ1 := hid (HZ1.out.below hbu))); (try (replace HZ2 := hid (HZ2.out.below hbu))); (try (replace HZ3 := hid (HZ3.out.below hbu))); (try (replace HF9 := hid (HF9.out.below hbu))); clear hbu hb; have HF9 := hid hv; clear hv; clear s0 s1 s2; obtain ⟨s0, s1, s2⟩ := HS.out.cells))
  refine wp_gen fun W hW => ?_
  have hb : Below U.heap.size U W := by rw [hW]; go_grown
  have HO9 := hid (show OB W U.heap.size exW.op exW.name exW.val exW.bound A9 exW.args.length c9 by rw [hW]; exact at_new _ _ _ rfl)
  have hbu := hb
  replace HG := hid (HG.out.nx hbu)
  replace HK := hid (HK.out.nx hbu)
  replace HB := hid (belNx HB.out hbu)
  replace HX := hid (HX.out.belowD hbu)
  (try (replace HS := hid (HS.out.below hbu)))
  (try (replace HRD := hid (HRD.out.below hbu)))
  (try (replace HF8 := hid (HF8.out.below hbu)))
  (try (replace HO8 := hid (HO8.out.below hbu)))
  (try (replace HF9 := hid (HF9.out.below hbu)))
  clear hW hb hbu s0 s1 s2
  obtain ⟨b9, hb9⟩ : ∃ b9, b9 = U.heap.size := ⟨_, rfl⟩
  rw [← hb9] at HO9 ⊢
  clear hb9
  rename World => W
  obtain ⟨s0, s1, s2⟩ := HS.out.cells
  obtain ⟨x0, x1, x2, x3, x4, x5⟩ := HO8.out.cells
  obtain ⟨y0, y1, y2, y3, y4, y5⟩ := HO9.out.cells
  go_wp2_with (first | (go_at_call 15; (with_reducible refine (same_lit (f := exW) (f2 := exW) true ?_ ?_ ?_).mono ?_); exact decide_eq_true (cmp_self exW); (first | exact HF8.out | exact HF8.out.below (by go_grown)); (first | exact HF9.out | exact HF9.out.below (by go_grown)); rintro e U ⟨rfl, hb⟩; have hbu := nx_of HB.out (by first | exact Below.refl _ _ | go_grown) hb; replace HG := hid (HG.out.nx hbu); replace HK := hid (HK.out.nx hbu); replace HB := hid (belNx HB.out hbu); replace HX := hid (HX.out.belowD hbu); (try (replace HS := hid (HS.out.below hbu))); (try (replace HRD := hid (HRD.out.below hbu))); (try (replace HF8 := hid (HF8.out.below hbu))); (try (replace HO8 := hid (HO8.out.below hbu))); (try (replace HF9 := hid (HF9.out.below hbu))); (try (replace HO9 := hid (HO9.out.below hbu))); clear hbu hb; clear s0 s1 s2; obtain ⟨s0, s1, s2⟩ := HS.out.cells; clear x0 x1 x2 x3 x4 x5 y0 y1 y2 y3 y4 y5; obtain ⟨x0, x1, x2, x3, x4, x5⟩ := HO8.out.cells; obtain ⟨y0, y1, y2, y3, y4, y5⟩ := HO9.out.cells) | (go_at_call 13; (with_reducible refine (check_lit (D := (· < qb)) (E := AnyD) (l := exL) (rs := exR2) [] 0 ?_ ?_ ?_ ?_ ?_ ?_ ?_ ?_).mono ?_); exact ex_check2; rfl; rfl; (first | exact HX.out | exact HX.out.below (by go_grown)); rfl; (first | exact HRD.out | exact HRD.out.below (by go_grown)); (first | exact HG.out | exact HG.out.nx (by go_grown)); (first | exact HK.out | exact HK.out.nx (by go_grown)); rintro e U ⟨AC, cC, rfl, hv, hb⟩; have hbu := nx_of HB.out (by first | exact Below.refl _ _ | go_grown) hb; replace HG := hid (HG.out.nx hbu); replace HK := hid (HK.out.nx hbu); replace HB := hid (belNx HB.out hbu); replace HX := hid (HX.out.belowD hbu); (try (replace HS := hid (HS.out.below hbu))); (try (replace HRD := hid (HRD.out.below hbu))); (try (replace HF8 := hid (HF8.out.below hbu))); (try (replace HO8 := hid (HO8.out.below hbu))); (try (replace HF9 := hid (HF9.out.below hbu))); (try (replace HO9 := hid (HO9.out.below hbu))); clear hbu hb; clear hv; clear s0 s1 s2; obtain ⟨s0, s1, s2⟩ := HS.out.cells; clear x0 x1 x2 x3 x4 x5 y0 y1 y2 y3 y4 y5; obtain ⟨x0, x1, x2, x3, x4, x5⟩ := HO8.out.cells; obtain ⟨y0, y1, y2, y3, y4, y5⟩ := HO9.out.cells) | (go_at_call 13; (with_reducible refine (check_lit (D := AnyD) (E := AnyD) (l := []) (rs := []) [(-1, 1)] 1 ?_ ?_ ?_ ?_ ?_ ?_ ?_ ?_).mono ?_); exact ex_check0; rfl; rfl; exact RdG.nil _ AnyD none (by omega); rfl; exact RdR.nil _ AnyD none (by omega); (first | exact HG.out | exact HG.out.nx (by go_grown)); (first | exact HK.out | exact HK.out.nx (by go_grown)); rintro e U ⟨AC, cC, rfl, hv, hb⟩; have hbu := nx_of HB.out (by first | exact Below.refl _ _ | go_grown) hb; replace HG := hid (HG.out.nx hbu); replace HK := hid (HK.out.nx hbu); replace HB := hid (belNx HB.out hbu); replace HX := hid (HX.out.belowD hbu); (try (replace HS := hid (HS.out.below hbu))); (try (replace HRD := hid (HRD.out.below hbu))); (try (replace HF8 := hid (HF8.out.below hbu))); (try (replace HO8 := hid (HO8.out.below hbu))); (try (replace HF9 := hid (HF9.out.below hbu))); (try (replace HO9 := hid (HO9.out.below hbu))); clear hbu hb; clear hv; clear s0 s1 s2; obtain ⟨s0, s1, s2⟩ := HS.out.cells; clear x0 x1 x2 x3 x4 x5 y0 y1 y2 y3 y4 y5; obtain ⟨x0, x1, x2, x3, x4, x5⟩ := HO8.out.cells; obtain ⟨y0, y1, y2, y3, y4, y5⟩ := HO9.out.cells))
  go_ret
  exact ⟨rfl, HB.out⟩
end Go.Proofs.YtdakdpfofgkjoaaGreatDoor
