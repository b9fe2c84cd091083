/-
  Arguments opened: slices of ints, of bytes, of slices of bools; controllers; what was read reads again behind a call that leaves old memory alone.
-/
import Derived.ProofKit
import Derived.SizedLaws
import Derived.Deep.Slices
import Derived.Deep.Matrix
import Derived.Deep.Fields
import Derived.Lib.SmallJoins
import Derived.Test.YtcmhginhfhiolaaZ32
set_option linter.unusedVariables false
set_option linter.unusedSimpArgs false
namespace Go.Proofs.Ytcmhginhfhiolaa
open Go.ChangeShapes Go.WideShapes Go.RowKit Go.Deep Go.Joins

theorem Try.cells_int : Try.prog.cellsOf 3 = 1 := by kernel_rfl
theorem Try.bytes_int : Try.prog.bytesOf 3 = 8 := by kernel_rfl
theorem Try.cells_ints : Try.prog.cellsOf 34 = 1 := by kernel_rfl
theorem Try.bytes_ints : Try.prog.bytesOf 34 = 24 := by kernel_rfl
theorem Try.cells_mealy : Try.prog.cellsOf 24 = 5 := by kernel_rfl

/-- The data's slices are within the reach. -/
def Light {H : Type} (P : Program) (t : TypeId) (d : DataW H) : Prop := (d.weights P t).all (· ≤ reachBytes) = true
theorem light_at {H : Type} {P : Program} {ts : List TypeId} {ds : List (DataW H)} (h : (DataW.weightsEach P ts ds).all (· ≤ reachBytes) = true) {j : Nat} {t : TypeId} {d : DataW H} (ht : ts[j]? = some t) (hd : ds[j]? = some d) : Light P t d := by
  unfold Light
  rw [List.all_eq_true] at h ⊢
  exact fun n hn => h n (DataW.weights_mem_each ht hd n hn)
theorem light_slice {H : Type} {P : Program} {t e : TypeId} {elems spare : List (DataW H)} (hu : P.underlying t = some (.slice e)) (h : Light P t (.slice elems spare)) :
    (elems.length + spare.length) * P.bytesOf e ≤ reachBytes ∧ ∀ d ∈ elems, Light P e d := by
  unfold Light at h
  simp only [DataW.weights, hu, List.all_cons, Bool.and_eq_true, decide_eq_true_eq, List.all_append] at h
  refine ⟨h.1, fun d hd => ?_⟩
  have key : ∀ (l : List (DataW H)), (DataW.weightsAll P e l).all (· ≤ reachBytes) = true → ∀ d ∈ l, Light P e d := by
    intro l
    induction l with
    | nil => intro _ d hd; cases hd
    | cons x l ih =>
      intro hl d hd
      simp only [DataW.weightsAll, List.all_append, Bool.and_eq_true] at hl
      rcases List.mem_cons.1 hd with rfl | hd
      · exact hl.1
      · exact ih hl.2 d hd
  exact key elems h.2.1 d hd

section
variable {H : Type} {enc : TypeId × Value → H} {w : World} {base : Nat} {held : Bool}
theorem plain_addr {a : Addr} {u : Value} (h : w.cell? (a.add 0) = some u) : a = ⟨a.block, a.off, none⟩ ∧ a.block < w.heap.size := by
  have h0 : a.add 0 = a := by unfold Addr.add; simp
  rw [h0] at h
  refine ⟨?_, World.block_lt_of_cell? w a h⟩
  obtain ⟨b, o, s⟩ := a
  cases s with
  | none => rfl
  | some s =>
    unfold World.cell? at h
    split at h <;> simp at h
theorem add_at (b o k : Nat) : (⟨b, o, none⟩ : Addr).add k = ⟨b, o + k, none⟩ := by
  unfold Addr.add
  by_cases h : k = 0 <;> simp [h]

/-- A slice of ints that came in. -/
theorem open_I {n : Nat} {v : Value} {y : DataW H × List MemPlace} (h : DataW.trod enc Try.prog w base (fun _ => true) held n 34 [v] = some y) (hl : Light Try.prog 34 y.1) :
    ∃ (A : Option Addr) (c : Nat) (xs : List Int), v = .slice A xs.length c ∧ RdI w (· < w.heap.size) A c xs := by
  rcases open_ints Try.underlying34 Try.underlying3 Try.cells_int h with ⟨hv, rfl⟩ | ⟨a, len, cap, zs, hv, hb, hlc, hcm, hz, rfl, hcell, _⟩
  · obtain rfl : v = .slice none 0 0 := by simpa using hv
    exact ⟨none, 0, [], rfl, RdI.nil _ _ _ (by omega)⟩
  · obtain rfl : v = .slice (some a) len cap := by simpa using hv
    simp only [if_true] at hz
    have h8 := (light_slice Try.underlying34 hl).1
    rw [Try.bytes_int] at h8
    simp only [lits, List.length_map, List.length_take, List.length_drop, reachBytes] at h8
    have hxl : (zs.take len).length = len := by rw [List.length_take]; omega
    refine ⟨some a, cap, zs.take len, by rw [hxl], ⟨⟨by simp, by rw [hxl]; omega, by rw [hxl]; exact hlc, hcm⟩, fun hn => ?_⟩⟩
    rw [hxl] at hn
    obtain ⟨ha, hlt⟩ := plain_addr (hcell 0 (by omega))
    refine ⟨a.block, a.off, by rw [← ha], hlt, hlt, fun j u hu => ?_⟩
    rw [List.getElem?_map] at hu
    have hj : j < len := by
      rcases Nat.lt_or_ge j len with h | h
      · exact h
      · rw [List.getElem?_eq_none (by rw [hxl]; exact h)] at hu; cases hu
    have := hcell j (by omega)
    rw [ha, add_at] at this
    rw [this]
    rw [List.getElem?_take, if_pos hj, List.getElem?_eq_getElem (by omega)] at hu
    simp only [Option.map_some, Option.some.injEq] at hu
    rw [← hu]
    simp [List.getD, show j < zs.length by omega]
theorem exists_list {α : Type} (d : α) {n : Nat} {P : Nat → α → Prop} (h : ∀ i, i < n → ∃ x, P i x) : ∃ l : List α, l.length = n ∧ ∀ i, i < n → P i (l.getD i d) := by
  induction n with
  | zero => exact ⟨[], rfl, fun i hi => absurd hi (Nat.not_lt_zero _)⟩
  | succ n ih =>
    obtain ⟨l, hl, hp⟩ := ih (fun i hi => h i (by omega))
    obtain ⟨x, hx⟩ := h n (by omega)
    refine ⟨l ++ [x], by simp [hl], fun i hi => ?_⟩
    rw [getD_snoc, hl]
    split
    · exact hp i ‹_›
    · rw [if_pos (by omega)]
      obtain rfl : i = n := by omega
      exact hx
/-- A slice of slices of ints that came in. -/
theorem open_II {n : Nat} {v : Value} {y : DataW H × List MemPlace} (h : DataW.trod enc Try.prog w base (fun _ => true) held n 22 [v] = some y) (hl : Light Try.prog 22 y.1) :
    ∃ (A : Option Addr) (c : Nat) (rows : List (List Int)), v = .slice A rows.length c ∧ RdII w (· < w.heap.size) A c rows := by
  rcases open_int_rows Try.underlying22 Try.underlying34 Try.underlying3 Try.cells_ints Try.cells_int h with ⟨hv, rfl⟩ | ⟨a, len, cap, A, L, C, Z, hv, hb, hlc, hcm, rfl, hrow⟩
  · obtain rfl : v = .slice none 0 0 := by simpa using hv
    exact ⟨none, 0, [], rfl, RdII.nil _ _ _ (by omega)⟩
  · obtain rfl : v = .slice (some a) len cap := by simpa using hv
    obtain ⟨h8, hin⟩ := light_slice Try.underlying22 hl
    rw [Try.bytes_ints] at h8
    simp only [List.length_map, List.length_range, reachBytes] at h8
    have each : ∀ i, i < len → ∃ r : List Int, r = (Z i).take (L i) ∧ RdI w (· < w.heap.size) (A i) (C i) r ∧ r.length = L i := by
      intro i hi
      obtain ⟨_, h1, h2, h3, _, h5, h6⟩ := hrow i (by omega)
      have hxl : ((Z i).take (L i)).length = L i := by rw [List.length_take]; omega
      refine ⟨_, rfl, ⟨⟨by simp, ?_, by rw [hxl]; exact h1, h2⟩, fun hn => ?_⟩, hxl⟩
      · rw [hxl]
        cases hA : A i with
        | none => have := h5 hA; omega
        | some a' =>
          have := hin (intRow .i64 (A i) (L i) (Z i)) (List.mem_map.2 ⟨i, by simp [hi], rfl⟩)
          rw [hA] at this
          have h9 := (light_slice Try.underlying34 this).1
          rw [Try.bytes_int] at h9
          simp only [lits, List.length_map, List.length_take, List.length_drop, reachBytes] at h9
          omega
      · rw [hxl] at hn
        cases hA : A i with
        | none => have := h5 hA; omega
        | some a' =>
          obtain ⟨_, hc⟩ := h6 a' hA
          obtain ⟨ha, hlt⟩ := plain_addr (hc 0 (by omega))
          refine ⟨a'.block, a'.off, by rw [← ha], hlt, hlt, fun j u hu => ?_⟩
          rw [List.getElem?_map] at hu
          have hj : j < L i := by
            rcases Nat.lt_or_ge j (L i) with h | h
            · exact h
            · rw [List.getElem?_eq_none (by rw [hxl]; exact h)] at hu; cases hu
          have := hc j (by omega)
          rw [ha, add_at] at this
          rw [this]
          rw [List.getElem?_take, if_pos hj, List.getElem?_eq_getElem (by omega)] at hu
          simp only [Option.map_some, Option.some.injEq] at hu
          rw [← hu]
          simp [List.getD, show j < (Z i).length by omega]
    obtain ⟨rows, hrl, hr⟩ := exists_list [] each
    refine ⟨some a, cap, rows, by rw [hrl], (List.range len).map fun i => Value.slice (A i) (L i) (C i), ⟨⟨by simp [hrl], by omega, by omega, hcm⟩, fun hn => ?_⟩, fun i hi => ?_⟩
    · obtain ⟨ha, hlt⟩ := plain_addr (hrow 0 (by omega)).1
      refine ⟨a.block, a.off, by rw [← ha], hlt, hlt, fun j u hu => ?_⟩
      have hj : j < len := by
        rcases Nat.lt_or_ge j len with h | h
        · exact h
        · rw [List.getElem?_eq_none (by simpa using h)] at hu; cases hu
      have := (hrow j (by omega)).1
      rw [ha, add_at] at this
      rw [this]
      simpa [hj] using hu
    · obtain ⟨_, h2, h3⟩ := hr i (by omega)
      exact ⟨A i, C i, by rw [h3]; simp [show i < len by omega], h2⟩
theorem light_agg {P : Program} {t : TypeId} {fs : Array Field} {parts : List (DataW H)} (hu : P.underlying t = some (.struct fs)) (h : Light P t (.agg parts)) {j : Nat} {f : Field} {d : DataW H} (hf : fs[j]? = some f) (hd : parts[j]? = some d) : Light P f.type d := by
  unfold Light at h
  simp only [DataW.weights, hu] at h
  exact light_at h (j := j) (by simp [hf]) hd
/-- A struct of five one-cell fields. -/
theorem open_five {r : Reach} {b0 : Nat} {P : Program} {spare : Nat → Bool} {t : TypeId} {f0 f1 f2 f3 f4 : Field} {v : Value} {d : DataW H} {p : List MemPlace} (hs : P.underlying t = some (.struct #[f0, f1, f2, f3, f4])) (hone : oneCellFields P #[f0, f1, f2, f3, f4] = true) (hC : P.cellsOf t = 5)
    (hv : Value.okWide P w r b0 t v) (h : DataW.Trod enc P w base spare held t v d p) :
    ∃ (v0 v1 v2 v3 v4 : Value) (y0 y1 y2 y3 y4 : DataW H × List MemPlace) (n : Nat), v = .agg #[v0, v1, v2, v3, v4] ∧ d = .agg [y0.1, y1.1, y2.1, y3.1, y4.1] ∧
      DataW.trod enc P w base spare held n f0.type [v0] = some y0 ∧ DataW.trod enc P w base spare held n f1.type [v1] = some y1 ∧ DataW.trod enc P w base spare held n f2.type [v2] = some y2 ∧ DataW.trod enc P w base spare held n f3.type [v3] = some y3 ∧ DataW.trod enc P w base spare held n f4.type [v4] = some y4 := by
  obtain ⟨cs, rfl, hsz⟩ := okWide_struct hs hv
  obtain ⟨l⟩ := cs
  match l, hsz.trans hC with
  | [c0, c1, c2, c3, c4], _ =>
    obtain ⟨fuel, hf⟩ := h
    obtain ⟨xs, n, _, hx, _, hlen, hg⟩ := DataW.trod_struct hs hf
    obtain ⟨o0, k0⟩ := hone_of hone 0 f0 rfl
    obtain ⟨o1, k1⟩ := hone_of hone 1 f1 rfl
    obtain ⟨o2, k2⟩ := hone_of hone 2 f2 rfl
    obtain ⟨o3, k3⟩ := hone_of hone 3 f3 rfl
    obtain ⟨o4, k4⟩ := hone_of hone 4 f4 rfl
    match xs, hlen with
    | [y0, y1, y2, y3, y4], _ =>
      simp only [Prod.mk.injEq] at hx
      exact ⟨c0, c1, c2, c3, c4, y0, y1, y2, y3, y4, n, rfl, by simpa using hx.1, by simpa [Value.cells, o0, k0] using hg 0 f0 rfl, by simpa [Value.cells, o1, k1] using hg 1 f1 rfl, by simpa [Value.cells, o2, k2] using hg 2 f2 rfl, by simpa [Value.cells, o3, k3] using hg 3 f3 rfl, by simpa [Value.cells, o4, k4] using hg 4 f4 rfl⟩
set_option maxRecDepth 100000 in
/-- A controller that came in. -/
theorem open_M {r : Reach} {b0 : Nat} {v : Value} {d : DataW H} {p : List MemPlace} (hv : Value.okWide Try.prog w r b0 24 v) (h : DataW.Trod enc Try.prog w base (fun _ => true) held 24 v d p) (hl : Light Try.prog 24 d) :
    ∃ m : Mly, RdM w (· < w.heap.size) v m := by
  obtain ⟨v0, v1, v2, v3, v4, y0, y1, y2, y3, y4, n, rfl, rfl, h0, h1, h2, h3, h4⟩ := open_five Try.underlying24 (by kernel_rfl) Try.cells_mealy hv h
  obtain ⟨z0, hz0, -⟩ := DataW.trod_int Try.underlying3 h0
  obtain ⟨z1, hz1, -⟩ := DataW.trod_int Try.underlying3 h1
  obtain ⟨z2, hz2, -⟩ := DataW.trod_int Try.underlying3 h2
  obtain rfl : v0 = .int .i64 z0 := by simpa using hz0
  obtain rfl : v1 = .int .i64 z1 := by simpa using hz1
  obtain rfl : v2 = .int .i64 z2 := by simpa using hz2
  obtain ⟨A3, c3, out, rfl, r3⟩ := open_II h3 (light_agg Try.underlying24 hl (j := 3) rfl rfl)
  obtain ⟨A4, c4, next, rfl, r4⟩ := open_II h4 (light_agg Try.underlying24 hl (j := 4) rfl rfl)
  exact ⟨⟨z0, z1, z2, out, next⟩, A3, c3, A4, c4, rfl, r3, r4⟩
/-- A slice of ints that came in as an argument. -/
theorem open_IT {v : Value} {d : DataW H} {p : List MemPlace} (hc : v.cells = #[v]) (h : DataW.Trod enc Try.prog w base (fun _ => true) held 34 v d p) (hl : Light Try.prog 34 d) :
    ∃ (A : Option Addr) (c : Nat) (xs : List Int), v = .slice A xs.length c ∧ RdI w (· < w.heap.size) A c xs := by
  obtain ⟨n, hn⟩ := h
  rw [hc] at hn
  exact open_I hn hl
end

theorem byte_range {n : Int} (h : (Lit.int .u8 n).wf = true) : 0 ≤ n ∧ n ≤ 255 := by
  have h1 : IntKind.u8.min = 0 := rfl
  have h2 : IntKind.u8.max = 255 := rfl
  simp only [Lit.wf, Bool.and_eq_true, decide_eq_true_eq] at h
  omega
theorem Try.cells_bool : Try.prog.cellsOf 4 = 1 := by kernel_rfl
theorem Try.bytes_bool : Try.prog.bytesOf 4 = 1 := by kernel_rfl
theorem Try.cells_bools : Try.prog.cellsOf 41 = 1 := by kernel_rfl
theorem Try.bytes_bools : Try.prog.bytesOf 41 = 24 := by kernel_rfl
theorem Try.cells_byte : Try.prog.cellsOf 5 = 1 := by kernel_rfl
theorem Try.bytes_byte : Try.prog.bytesOf 5 = 1 := by kernel_rfl
section
variable {H : Type} {enc : TypeId × Value → H} {w : World} {base : Nat} {held : Bool}
/-- A slice of one-cell elements that came in. -/
theorem open_one {t e : TypeId} {n : Nat} {v : Value} {y : DataW H × List MemPlace} (ht : Try.prog.underlying t = some (.slice e)) (hc : Try.prog.cellsOf e = 1) (hby : 1 ≤ Try.prog.bytesOf e) (h : DataW.trod enc Try.prog w base (fun _ => true) held n t [v] = some y) (hl : Light Try.prog t y.1) :
    ∃ (A : Option Addr) (c : Nat) (vs : List Value), v = .slice A vs.length c ∧ Rd w (· < w.heap.size) 1 A vs.length c vs ∧ ∀ (i : Nat) (u : Value), vs[i]? = some u → ∃ (k : Nat) (z : DataW H × List MemPlace), DataW.trod enc Try.prog w base (fun _ => true) held k e [u] = some z ∧ Light Try.prog e z.1 := by
  rcases open_slice1 ht hc h with ⟨hv, rfl⟩ | ⟨a, len, cap, m, k, V, D, Pl, hv, hb, hlc, hcm, hmm, rfl, hx⟩
  · obtain rfl : v = .slice none 0 0 := by simpa using hv
    exact ⟨none, 0, [], rfl, Rd.nil _ _ 1 _ (by omega), fun i u hu => by simp at hu⟩
  · obtain rfl : v = .slice (some a) len cap := by simpa using hv
    simp only [if_true] at hmm
    obtain rfl : cap = m := hmm.symm
    obtain ⟨h8, hin⟩ := light_slice ht hl
    simp only [List.length_map, List.length_range, reachBytes] at h8
    have h9 : len + (cap - len) ≤ (len + (cap - len)) * Try.prog.bytesOf e := Nat.le_mul_of_pos_right _ hby
    have hvl : ((List.range len).map V).length = len := by simp
    refine ⟨some a, cap, (List.range len).map V, by rw [hvl], ⟨⟨by simp, by rw [hvl]; omega, by rw [hvl]; exact hlc, hcm⟩, fun hn => ?_⟩, fun i u hu => ?_⟩
    · rw [hvl] at hn
      obtain ⟨ha, hlt⟩ := plain_addr (hx 0 (by omega)).1
      refine ⟨a.block, a.off, by rw [← ha], hlt, hlt, fun j u hu => ?_⟩
      have hj : j < len := by
        rcases Nat.lt_or_ge j len with h | h
        · exact h
        · rw [List.getElem?_eq_none (by rw [hvl]; exact h)] at hu; cases hu
      have := (hx j (by omega)).1
      rw [ha, add_at] at this
      rw [this]
      simpa [hj] using hu
    · have hj : i < len := by
        rcases Nat.lt_or_ge i len with h | h
        · exact h
        · rw [List.getElem?_eq_none (by rw [hvl]; exact h)] at hu; cases hu
      have hu2 : V i = u := by simpa [hj] using hu
      exact ⟨k, _, by rw [← hu2]; exact (hx i (by omega)).2, hin _ (List.mem_map.2 ⟨i, by simp [hj], rfl⟩)⟩
/-- Values that are told one by one are told by a list. -/
theorem values_list {α : Type} (d : α) (g : α → Value) {vs : List Value} {P : α → Prop} (h : ∀ (i : Nat) (u : Value), vs[i]? = some u → ∃ x, u = g x ∧ P x) : ∃ zs : List α, vs = zs.map g ∧ zs.length = vs.length ∧ ∀ i, i < zs.length → P (zs.getD i d) := by
  obtain ⟨zs, hl, hz⟩ := exists_list d (n := vs.length) (P := fun i x => vs[i]? = some (g x) ∧ P x) fun i hi => by
    obtain ⟨x, e, hp⟩ := h i vs[i] (List.getElem?_eq_getElem hi)
    exact ⟨x, by rw [List.getElem?_eq_getElem hi, e], hp⟩
  refine ⟨zs, List.ext_getElem? fun i => ?_, hl, fun i hi => (hz i (by omega)).2⟩
  rw [List.getElem?_map]
  by_cases hi : i < vs.length
  · rw [(hz i hi).1]
    simp [List.getD, hl, hi]
  · rw [List.getElem?_eq_none (by omega), List.getElem?_eq_none (by omega)]; rfl
theorem open_Y {n : Nat} {v : Value} {y : DataW H × List MemPlace} (h : DataW.trod enc Try.prog w base (fun _ => true) held n 33 [v] = some y) (hl : Light Try.prog 33 y.1) :
    ∃ (A : Option Addr) (c : Nat) (zs : List Int), v = .slice A zs.length c ∧ RdY w (· < w.heap.size) A c zs := by
  obtain ⟨A, c, vs, rfl, hr, he⟩ := open_one Try.underlying33 Try.cells_byte (by rw [Try.bytes_byte]; omega) h hl
  obtain ⟨zs, rfl, hzl, hz⟩ := values_list (0 : Int) (fun z => Value.int .u8 z) (P := fun z => 0 ≤ z ∧ z ≤ 255) (vs := vs) fun i u hu => by
    obtain ⟨k, z, ht, _⟩ := he i u hu
    obtain ⟨x, hx, _, hw⟩ := DataW.trod_int Try.underlying5 ht
    exact ⟨x, by simpa using hx, byte_range hw⟩
  rw [← hzl] at hr ⊢
  exact ⟨A, c, zs, rfl, hr, hz⟩
theorem open_B {n : Nat} {v : Value} {y : DataW H × List MemPlace} (h : DataW.trod enc Try.prog w base (fun _ => true) held n 41 [v] = some y) (hl : Light Try.prog 41 y.1) :
    ∃ (A : Option Addr) (c : Nat) (zs : List Bool), v = .slice A zs.length c ∧ RdB w (· < w.heap.size) A c zs := by
  obtain ⟨A, c, vs, rfl, hr, he⟩ := open_one Try.underlying41 Try.cells_bool (by rw [Try.bytes_bool]; omega) h hl
  obtain ⟨zs, rfl, hzl, hz⟩ := values_list false (fun z => Value.bool z) (P := fun _ => True) (vs := vs) fun i u hu => by
    obtain ⟨k, z, ht, _⟩ := he i u hu
    obtain ⟨x, hx, _⟩ := DataW.trod_bool Try.underlying4 ht
    exact ⟨x, by simpa using hx, trivial⟩
  rw [← hzl] at hr ⊢
  exact ⟨A, c, zs, rfl, hr⟩
theorem open_BB {n : Nat} {v : Value} {y : DataW H × List MemPlace} (h : DataW.trod enc Try.prog w base (fun _ => true) held n 25 [v] = some y) (hl : Light Try.prog 25 y.1) :
    ∃ (A : Option Addr) (c : Nat) (rows : List (List Bool)), v = .slice A rows.length c ∧ RdBB w (· < w.heap.size) A c rows := by
  obtain ⟨A, c, vs, rfl, hr, he⟩ := open_one Try.underlying25 Try.cells_bools (by rw [Try.bytes_bools]; omega) h hl
  obtain ⟨rows, hrl, hz⟩ := exists_list ([] : List Bool) (n := vs.length) (P := fun i r => ∃ A' c', vs[i]? = some (.slice A' r.length c') ∧ RdB w (· < w.heap.size) A' c' r) fun i hi => by
    obtain ⟨k, z, ht, hlz⟩ := he i vs[i] (List.getElem?_eq_getElem hi)
    obtain ⟨A', c', r, e, hb⟩ := open_B ht hlz
    exact ⟨r, A', c', by rw [List.getElem?_eq_getElem hi, e], hb⟩
  refine ⟨A, c, rows, by rw [hrl], vs, by rw [hrl]; exact hr, fun i hi => hz i (by omega)⟩
theorem open_YT {v : Value} {d : DataW H} {p : List MemPlace} (hc : v.cells = #[v]) (h : DataW.Trod enc Try.prog w base (fun _ => true) held 33 v d p) (hl : Light Try.prog 33 d) :
    ∃ (A : Option Addr) (c : Nat) (zs : List Int), v = .slice A zs.length c ∧ RdY w (· < w.heap.size) A c zs := by
  obtain ⟨n, hn⟩ := h
  rw [hc] at hn
  exact open_Y hn hl
theorem open_BBT {v : Value} {d : DataW H} {p : List MemPlace} (hc : v.cells = #[v]) (h : DataW.Trod enc Try.prog w base (fun _ => true) held 25 v d p) (hl : Light Try.prog 25 d) :
    ∃ (A : Option Addr) (c : Nat) (rows : List (List Bool)), v = .slice A rows.length c ∧ RdBB w (· < w.heap.size) A c rows := by
  obtain ⟨n, hn⟩ := h
  rw [hc] at hn
  exact open_BB hn hl
end
theorem Try.own : ownKnob Try.prog.godebug = none := by kernel_rfl
theorem Try.laidOut : laidOutB Try.prog = true := by kernel_rfl
/-- What was read reads again behind a call that leaves old memory alone. -/
theorem reads_again {H : Type} {enc : TypeId × Value → H} {W W' : World} {sp : Nat → Bool} {t : TypeId} {v : Value} {d : DataW H} {ps : List MemPlace} (hl : laidOutB Try.prog = true) (hr : Try.prog.readableRec t = true) (hrow : t < Try.prog.types.size)
    (h : DataW.Trod enc Try.prog W 0 (fun _ => true) true t v d ps) (hb : Below W.heap.size W W') (hlt : ∀ x ∈ ps, x.block < W.heap.size) (hsp : ∀ x ∈ ps, sp x.block = true) : DataW.Trod enc Try.prog W' 0 sp true t v d ps :=
  WideElems.Trod_stays hl hr hrow h (fun x hx => hb.same (hlt x hx)) hsp
theorem post_of_below {H : Type} {enc : TypeId × Value → H} {P : Program} {f : Func} {s : ChangeSpec} {apart fresh handsOn again : Bool} {W W' : World} {args : Array Value} {v : Value} {ds gs : List (DataW H)} {before pa pv : List MemPlace}
    (hW : DataW.Whole enc P f.params.toList s.vars apart W args.toList ds gs before)
    (hres : ∀ (b : Nat) (sp : Nat → Bool) (hd : Bool), DataW.TrodAll enc P W' b sp hd f.resultTypes.toList (v.resultList f.resultTypes.size) (s.fn H (ds ++ gs)).results [])
    (hargs : ∀ sp : Nat → Bool, (∀ p ∈ before, sp p.block = true) → DataW.TrodAll enc P W' 0 sp true f.params.toList args.toList (s.fn H (ds ++ gs)).args pa)
    (hvars : ∀ sp : Nat → Bool, (∀ p ∈ before, sp p.block = true) → DataW.TrodVars enc P W' sp s.vars (s.fn H (ds ++ gs)).vars pv)
    (hps : before = pa ++ pv) (hb : Below W.heap.size W W')
    (hok : ∀ (j : Nat) (t : TypeId) (r : Value), f.resultTypes[j]? = some t → (v.resultList f.resultTypes.size)[j]? = some r → Value.okWide P W' .any 0 t r) :
    s.post enc P f apart fresh handsOn again W args v W' := by
  have hlt : ∀ p ∈ before, p.block < W.heap.size := fun p hp => hW.lt p hp
  have hold : ∀ p ∈ before, (fun b => decide (b < W.heap.size)) p.block = true := fun p hp => by simpa using hlt p hp
  refine ⟨ds, gs, before, [], pa, pv, hW, hres _ _ _, hargs _ hold, hvars _ hold, World.keptBut_mono (fun p hp => ⟨hp, ?_⟩) (hb.frame (· ∈ before)), fun _ => ?_⟩
  · rw [hps, List.mem_append] at hp
    exact Or.inr hp
  · obtain ⟨_, _, _, _, _, hz, hn⟩ := hW
    refine ⟨hok, _, _, ([] ++ pa) ++ pv, ⟨[] ++ pa, pv, trodAll_append (hargs _ (fun _ _ => rfl)) (hres _ _ _), hvars _ (fun _ _ => rfl), rfl, ?_, ?_⟩, ?_⟩
    · intro b off hp
      have hin : MemPlace.cell b off ∈ before := by rw [hps]; simpa using hp
      rw [hb.frozen (hlt _ hin)]
      exact hz b off hin
    · intro ha
      have := hn ha
      rw [hps] at this
      simpa using this
    · intro p hp _
      rw [hps]
      simpa using hp
end Go.Proofs.Ytcmhginhfhiolaa
