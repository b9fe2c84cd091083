/-
  Arguments opened: formulas; what was read reads again behind a call that leaves old memory alone.
-/
import Derived.ProofKit
import Derived.SizedLaws
import Derived.Deep.Slices
import Derived.Deep.SlicePairs
import Derived.Deep.Fields
import Derived.Lib.SmallJoins
import Derived.Test.YtahgbgniaiccbaaGreatDoorZLN
import Derived.Test.YtahgbgniaiccbaaGreatDoorZ00
set_option linter.unusedVariables false
set_option linter.unusedSimpArgs false
namespace Go.Proofs.YtahgbgniaiccbaaGreatDoor
open Go.ChangeShapes Go.WideShapes Go.RowKit Go.Deep Go.Joins

/-- The data's slices are within the reach. -/
def Light {H : Type} (P : Program) (t : TypeId) (d : DataW H) : Prop := (d.weights P t).all (· ≤ reachBytes) = true
theorem light_at {H : Type} {P : Program} {ts : List TypeId} {ds : List (DataW H)} (h : (DataW.weightsEach P ts ds).all (· ≤ reachBytes) = true) {j : Nat} {t : TypeId} {d : DataW H} (ht : ts[j]? = some t) (hd : ds[j]? = some d) : Light P t d := by
  unfold Light
  rw [List.all_eq_true] at h ⊢
  exact fun n hn => h n (DataW.weights_mem_each ht hd n hn)
theorem light_slice {H : Type} {P : Program} {t e : TypeId} {elems spare : List (DataW H)} (hu : P.underlying t = some (.slice e)) (h : Light P t (.slice elems spare)) :
    (elems.length + spare.length) * P.bytesOf e ≤ reachBytes ∧ ∀ d ∈ elems, Light P e d := by
  unfold Light at h
  simp only [DataW.weights, hu, List.all_cons, Bool.and_eq_true, decide_eq_true_eq, List.all_append] at h
  refine ⟨h.1, fun d hd => ?_⟩
  have key : ∀ (l : List (DataW H)), (DataW.weightsAll P e l).all (· ≤ reachBytes) = true → ∀ d ∈ l, Light P e d := by
    intro l
    induction l with
    | nil => intro _ d hd; cases hd
    | cons x l ih =>
      intro hl d hd
      simp only [DataW.weightsAll, List.all_append, Bool.and_eq_true] at hl
      rcases List.mem_cons.1 hd with rfl | hd
      · exact hl.1
      · exact ih hl.2 d hd
  exact key elems h.2.1 d hd

section
variable {H : Type} {enc : TypeId × Value → H} {w : World} {base : Nat} {held : Bool}
theorem plain_addr {a : Addr} {u : Value} (h : w.cell? (a.add 0) = some u) : a = ⟨a.block, a.off, none⟩ ∧ a.block < w.heap.size := by
  have h0 : a.add 0 = a := by unfold Addr.add; simp
  rw [h0] at h
  refine ⟨?_, World.block_lt_of_cell? w a h⟩
  obtain ⟨b, o, s⟩ := a
  cases s with
  | none => rfl
  | some s =>
    unfold World.cell? at h
    split at h <;> simp at h
theorem add_at (b o k : Nat) : (⟨b, o, none⟩ : Addr).add k = ⟨b, o + k, none⟩ := by
  unfold Addr.add
  by_cases h : k = 0 <;> simp [h]

theorem getD_snoc_o {α : Type} (l : List α) (x d : α) (j : Nat) : (l ++ [x]).getD j d = if j < l.length then l.getD j d else if j = l.length then x else d := by
  simp only [List.getD, List.getElem?_append]
  split
  · rfl
  · split
    · rename_i h h2; subst h2; simp
    · rename_i h h2
      rw [List.getElem?_eq_none (by simp; omega)]; rfl
theorem exists_list {α : Type} (d : α) {n : Nat} {P : Nat → α → Prop} (h : ∀ i, i < n → ∃ x, P i x) : ∃ l : List α, l.length = n ∧ ∀ i, i < n → P i (l.getD i d) := by
  induction n with
  | zero => exact ⟨[], rfl, fun i hi => absurd hi (Nat.not_lt_zero _)⟩
  | succ n ih =>
    obtain ⟨l, hl, hp⟩ := ih (fun i hi => h i (by omega))
    obtain ⟨x, hx⟩ := h n (by omega)
    refine ⟨l ++ [x], by simp [hl], fun i hi => ?_⟩
    rw [getD_snoc_o, hl]
    split
    · exact hp i ‹_›
    · rw [if_pos (by omega)]
      obtain rfl : i = n := by omega
      exact hx
theorem light_agg {P : Program} {t : TypeId} {fs : Array Field} {parts : List (DataW H)} (hu : P.underlying t = some (.struct fs)) (h : Light P t (.agg parts)) {j : Nat} {f : Field} {d : DataW H} (hf : fs[j]? = some f) (hd : parts[j]? = some d) : Light P f.type d := by
  unfold Light at h
  simp only [DataW.weights, hu] at h
  exact light_at h (j := j) (by simp [hf]) hd
theorem flat_size {α : Type} (f : α → List Value) (s : Nat) (hf : ∀ x, (f x).length = s) (l : List α) : (l.flatMap f).length = l.length * s := by
  induction l with
  | nil => simp
  | cons x l ih => rw [List.flatMap_cons, List.length_append, hf, ih, List.length_cons, Nat.add_mul, Nat.one_mul]; omega
theorem zip_parts {α β : Type} : ∀ l : List (α × β), (l.map Prod.fst).zip (l.map Prod.snd) = l
  | [] => rfl
  | x :: l => by simp [zip_parts l]
theorem cells_F : Tryz.prog.cellsOf 24 = 5 := by kernel_rfl
theorem bytes_F : Tryz.prog.bytesOf 24 = 64 := by kernel_rfl
theorem cells_i : Tryz.prog.cellsOf 3 = 1 := by kernel_rfl
theorem cells_s : Tryz.prog.cellsOf 9 = 1 := by kernel_rfl
theorem cells_fs : Tryz.prog.cellsOf 22 = 1 := by kernel_rfl
set_option maxRecDepth 100000 in
/-- The fields of a formula that came in. -/
theorem open_fields {n : Nat} {cs : List Value} {y : DataW H × List MemPlace} (h : DataW.trod enc Tryz.prog w base (fun _ => true) held n 24 cs = some y) (hcl : cs.length = 5) :
    ∃ (o : Int) (s : ByteArray) (v b : Int) (a : Value) (k : Nat) (y4 : DataW H × List MemPlace) (d0 d1 d2 d3 : DataW H), cs = [.int .i64 o, .string s, .int .i64 v, .int .i64 b, a] ∧ y.1 = .agg [d0, d1, d2, d3, y4.1] ∧ DataW.trod enc Tryz.prog w base (fun _ => true) held k 22 [a] = some y4 := by
  obtain ⟨xs, k', _, hxy, _, hyl, hf⟩ := DataW.trod_struct Tryz.underlying24 h
  match xs, hyl, cs, hcl with
  | [y0, y1, y2, y3, y4], _, [v0, v1, v2, v3, v4], _ =>
    have g0 : DataW.trod enc Tryz.prog w base (fun _ => true) held k' 3 [v0] = some y0 := by
      have := hf 0 _ rfl
      change DataW.trod enc Tryz.prog w base (fun _ => true) held k' 3 (([v0, v1, v2, v3, v4].drop 0).take (Tryz.prog.cellsOf 3)) = some y0 at this
      rw [cells_i] at this
      simpa using this
    have g1 : DataW.trod enc Tryz.prog w base (fun _ => true) held k' 9 [v1] = some y1 := by
      have := hf 1 _ rfl
      change DataW.trod enc Tryz.prog w base (fun _ => true) held k' 9 (([v0, v1, v2, v3, v4].drop 1).take (Tryz.prog.cellsOf 9)) = some y1 at this
      rw [cells_s] at this
      simpa using this
    have g2 : DataW.trod enc Tryz.prog w base (fun _ => true) held k' 3 [v2] = some y2 := by
      have := hf 2 _ rfl
      change DataW.trod enc Tryz.prog w base (fun _ => true) held k' 3 (([v0, v1, v2, v3, v4].drop 2).take (Tryz.prog.cellsOf 3)) = some y2 at this
      rw [cells_i] at this
      simpa using this
    have g3 : DataW.trod enc Tryz.prog w base (fun _ => true) held k' 3 [v3] = some y3 := by
      have := hf 3 _ rfl
      change DataW.trod enc Tryz.prog w base (fun _ => true) held k' 3 (([v0, v1, v2, v3, v4].drop 3).take (Tryz.prog.cellsOf 3)) = some y3 at this
      rw [cells_i] at this
      simpa using this
    have g4 : DataW.trod enc Tryz.prog w base (fun _ => true) held k' 22 [v4] = some y4 := by
      have := hf 4 _ rfl
      change DataW.trod enc Tryz.prog w base (fun _ => true) held k' 22 (([v0, v1, v2, v3, v4].drop 4).take (Tryz.prog.cellsOf 22)) = some y4 at this
      rw [cells_fs] at this
      simpa using this
    obtain ⟨z0, hz0, _⟩ := DataW.trod_int Tryz.underlying3 g0
    obtain ⟨z1, hz1, _⟩ := DataW.trod_string Tryz.underlying9 g1
    obtain ⟨z2, hz2, _⟩ := DataW.trod_int Tryz.underlying3 g2
    obtain ⟨z3, hz3, _⟩ := DataW.trod_int Tryz.underlying3 g3
    have e0 : v0 = .int .i64 z0 := by simpa using hz0
    have e1 : v1 = .string z1 := by simpa using hz1
    have e2 : v2 = .int .i64 z2 := by simpa using hz2
    have e3 : v3 = .int .i64 z3 := by simpa using hz3
    refine ⟨z0, z1, z2, z3, v4, k', y4, y0.1, y1.1, y2.1, y3.1, by rw [e0, e1, e2, e3], ?_, g4⟩
    rw [hxy]
    rfl
set_option maxRecDepth 100000 in
/-- A slice of formulas that came in. -/
theorem open_FL : ∀ (N : Nat) {n : Nat} {v : Value} {y : DataW H × List MemPlace}, SizeOf.sizeOf y.1 ≤ N → DataW.trod enc Tryz.prog w base (fun _ => true) held n 22 [v] = some y → Light Tryz.prog 22 y.1 →
    ∃ (A : Option Addr) (c : Nat) (l : List Fm), v = .slice A l.length c ∧ RdA w (· < w.heap.size) l A c := by
  intro N
  induction N with
  | zero =>
    intro n v y hN h hl
    exfalso
    have : 0 < SizeOf.sizeOf y.1 := by cases y.1 <;> simp <;> omega
    omega
  | succ N ih =>
    intro n v y hN h hl
    rcases open_slice Tryz.underlying22 h with ⟨hv, rfl⟩ | ⟨a, len, cap, m, k, D, Pl, hv, hb, hlc, hcm, hmm, rfl, hx⟩
    · obtain rfl : v = .slice none 0 0 := by simpa using hv
      exact ⟨none, 0, [], rfl, RdA.nil _ _ _ (by omega)⟩
    · obtain rfl : v = .slice (some a) len cap := by simpa using hv
      simp only [if_true] at hmm
      obtain rfl : cap = m := hmm.symm
      obtain ⟨h8, hin⟩ := light_slice Tryz.underlying22 hl
      rw [bytes_F] at h8
      simp only [List.length_map, List.length_range, reachBytes] at h8
      rw [cells_F] at hx
      have each : ∀ i, i < len → ∃ q : Fm × (Option Addr × Nat), w.cell? (a.add (i * 5)) = some (.int .i64 q.1.op) ∧ w.cell? (a.add (i * 5 + 1)) = some (.string q.1.name) ∧ w.cell? (a.add (i * 5 + 2)) = some (.int .i64 q.1.val) ∧ w.cell? (a.add (i * 5 + 3)) = some (.int .i64 q.1.bound) ∧ w.cell? (a.add (i * 5 + 4)) = some (.slice q.2.1 q.1.args.length q.2.2) ∧ RdA w (· < w.heap.size) q.1.args q.2.1 q.2.2 := by
        intro i hi
        obtain ⟨cs', hc, ht'⟩ := hx i (by omega)
        obtain ⟨_, hcl, hat⟩ := World.cells?_some hc
        obtain ⟨o, s, vv, bb, av, k2, y4, d0, d1, d2, d3, rfl, hy, g4⟩ := open_fields ht' hcl
        have hDm : D i ∈ (List.range len).map D := List.mem_map.2 ⟨i, by simp [hi], rfl⟩
        have hli := hin (D i) hDm
        have hy : D i = .agg [d0, d1, d2, d3, y4.1] := hy
        have hs1 : SizeOf.sizeOf (D i) < SizeOf.sizeOf ((List.range len).map D) := List.sizeOf_lt_of_mem hDm
        have hs2 : SizeOf.sizeOf y4.1 ≤ N := by
          rw [hy] at hs1
          simp at hN hs1
          omega
        rw [hy] at hli
        obtain ⟨A2, c2, l2, e4, r2⟩ := ih hs2 g4 (light_agg Tryz.underlying24 hli (j := 4) rfl rfl)
        have c0 := hat 0 (by omega)
        have c1 := hat 1 (by omega)
        have c2' := hat 2 (by omega)
        have c3 := hat 3 (by omega)
        have c4 := hat 4 (by omega)
        rw [Go.Deep.add_add] at c0 c1 c2' c3 c4
        exact ⟨(.mk o s vv bb l2, (A2, c2)), by simpa [Fm.op] using c0, by simpa [Fm.name] using c1, by simpa [Fm.val] using c2', by simpa [Fm.bound] using c3, by simpa [e4, Fm.args] using c4, r2⟩
      obtain ⟨qs, hgl, hg⟩ := exists_list (default, (none, 0)) each
      have hz : (qs.map Prod.fst).zip (qs.map Prod.snd) = qs := zip_parts qs
      have hlen : (qs.map Prod.snd).length = (qs.map Prod.fst).length := by simp
      refine ⟨some a, cap, qs.map Prod.fst, by rw [List.length_map, hgl], .mk _ _ _ (qs.map Prod.snd) hlen ?_ fun i hi => ?_⟩
      · rw [List.length_map]
        have hfl : (cellsF (qs.map Prod.fst) (qs.map Prod.snd)).length = qs.length * 5 := by
          unfold cellsF
          rw [hz]
          exact flat_size _ 5 (fun _ => rfl) qs
        refine ⟨⟨hfl, by omega, by omega, hcm⟩, fun hn => ?_⟩
        rw [hgl] at hn
        obtain ⟨ha, hlt⟩ := plain_addr (by simpa using (hg 0 hn).1)
        refine ⟨a.block, a.off, by rw [← ha], hlt, hlt, fun j u hu => ?_⟩
        have hjl : j < qs.length * 5 := by
          rcases Nat.lt_or_ge j (qs.length * 5) with h | h
          · exact h
          · rw [List.getElem?_eq_none (by rw [hfl]; exact h)] at hu; cases hu
        obtain ⟨q, r, rfl, hr⟩ : ∃ q r, j = q * 5 + r ∧ r < 5 := ⟨j / 5, j % 5, by omega, by omega⟩
        have hq : q < qs.length := by omega
        rw [cellsF_at hlen (by simpa using hq) hr] at hu
        have e1 : (qs.map Prod.fst).getD q default = (qs.getD q (default, (none, 0))).1 := by simp [List.getD, hq]
        have e2 : (qs.map Prod.snd).getD q (none, 0) = (qs.getD q (default, (none, 0))).2 := by simp [List.getD, hq]
        rw [e1, e2] at hu
        obtain ⟨c0, c1, c2, c3, c4, _⟩ := hg q (by omega)
        rw [ha, add_at] at c0 c1 c2 c3 c4
        match r, hr with
        | 0, _ => simp only [fcells] at hu; have hu := Option.some.inj hu; rw [← hu]; exact c0
        | 1, _ => simp only [fcells] at hu; have hu := Option.some.inj hu; rw [← hu]; exact c1
        | 2, _ => simp only [fcells] at hu; have hu := Option.some.inj hu; rw [← hu]; exact c2
        | 3, _ => simp only [fcells] at hu; have hu := Option.some.inj hu; rw [← hu]; exact c3
        | 4, _ => simp only [fcells] at hu; have hu := Option.some.inj hu; rw [← hu]; exact c4
      · rw [List.length_map] at hi
        have := (hg i (by omega)).2.2.2.2.2
        simpa [List.getD, hi] using this
set_option maxRecDepth 100000 in
/-- A formula that came in. -/
theorem open_F {v : Value} {d : DataW H} {p : List MemPlace} {r : Reach} {b0 : Nat} (hv : Value.okWide Tryz.prog w r b0 24 v) (h : DataW.Trod enc Tryz.prog w base (fun _ => true) held 24 v d p) (hl : Light Tryz.prog 24 d) :
    ∃ f : Fm, RdF3 w (· < w.heap.size) v f := by
  obtain ⟨cs, rfl, hsz⟩ := okWide_struct Tryz.underlying24 hv
  obtain ⟨l⟩ := cs
  obtain ⟨fuel, hf⟩ := h
  have hl5 : l.length = 5 := hsz.trans cells_F
  obtain ⟨o, s, vv, bb, av, k2, y4, d0, d1, d2, d3, e, hy, g4⟩ := open_fields hf hl5
  have e' : l = [.int .i64 o, .string s, .int .i64 vv, .int .i64 bb, av] := e
  have hy : d = .agg [d0, d1, d2, d3, y4.1] := hy
  rw [hy] at hl
  obtain ⟨A2, c2, l2, e4, r2⟩ := open_FL _ (Nat.le_refl _) g4 (light_agg Tryz.underlying24 hl (j := 4) rfl rfl)
  subst e' e4
  exact ⟨.mk o s vv bb l2, A2, c2, rfl, r2⟩
end
theorem own_none : ownKnob Tryz.prog.godebug = none := by kernel_rfl
theorem laid_out : laidOutB Tryz.prog = true := by kernel_rfl
/-- What was read reads again behind a call that leaves old memory alone. -/
theorem reads_again {H : Type} {enc : TypeId × Value → H} {W W' : World} {sp : Nat → Bool} {t : TypeId} {v : Value} {d : DataW H} {ps : List MemPlace} (hl : laidOutB Tryz.prog = true) (hr : Tryz.prog.readableRec t = true) (hrow : t < Tryz.prog.types.size)
    (h : DataW.Trod enc Tryz.prog W 0 (fun _ => true) true t v d ps) (hb : Below W.heap.size W W') (hlt : ∀ x ∈ ps, x.block < W.heap.size) (hsp : ∀ x ∈ ps, sp x.block = true) : DataW.Trod enc Tryz.prog W' 0 sp true t v d ps :=
  WideElems.Trod_stays hl hr hrow h (fun x hx => hb.same (hlt x hx)) hsp
theorem post_of_below {H : Type} {enc : TypeId × Value → H} {P : Program} {f : Func} {s : ChangeSpec} {apart fresh handsOn again : Bool} {W W' : World} {args : Array Value} {v : Value} {ds gs : List (DataW H)} {before pa pv : List MemPlace}
    (hW : DataW.Whole enc P f.params.toList s.vars apart W args.toList ds gs before)
    (hres : ∀ (b : Nat) (sp : Nat → Bool) (hd : Bool), DataW.TrodAll enc P W' b sp hd f.resultTypes.toList (v.resultList f.resultTypes.size) (s.fn H (ds ++ gs)).results [])
    (hargs : ∀ sp : Nat → Bool, (∀ p ∈ before, sp p.block = true) → DataW.TrodAll enc P W' 0 sp true f.params.toList args.toList (s.fn H (ds ++ gs)).args pa)
    (hvars : ∀ sp : Nat → Bool, (∀ p ∈ before, sp p.block = true) → DataW.TrodVars enc P W' sp s.vars (s.fn H (ds ++ gs)).vars pv)
    (hps : before = pa ++ pv) (hb : Below W.heap.size W W')
    (hok : ∀ (j : Nat) (t : TypeId) (r : Value), f.resultTypes[j]? = some t → (v.resultList f.resultTypes.size)[j]? = some r → Value.okWide P W' .any 0 t r) :
    s.post enc P f apart fresh handsOn again W args v W' := by
  have hlt : ∀ p ∈ before, p.block < W.heap.size := fun p hp => hW.lt p hp
  have hold : ∀ p ∈ before, (fun b => decide (b < W.heap.size)) p.block = true := fun p hp => by simpa using hlt p hp
  refine ⟨ds, gs, before, [], pa, pv, hW, hres _ _ _, hargs _ hold, hvars _ hold, World.keptBut_mono (fun p hp => ⟨hp, ?_⟩) (hb.frame (· ∈ before)), fun _ => ?_⟩
  · rw [hps, List.mem_append] at hp
    exact Or.inr hp
  · obtain ⟨_, _, _, _, _, hz, hn⟩ := hW
    refine ⟨hok, _, _, ([] ++ pa) ++ pv, ⟨[] ++ pa, pv, trodAll_append (hargs _ (fun _ _ => rfl)) (hres _ _ _), hvars _ (fun _ _ => rfl), rfl, ?_, ?_⟩, ?_⟩
    · intro b off hp
      have hin : MemPlace.cell b off ∈ before := by rw [hps]; simpa using hp
      rw [hb.frozen (hlt _ hin)]
      exact hz b off hin
    · intro ha
      have := hn ha
      rw [hps] at this
      simpa using this
    · intro p hp _
      rw [hps]
      simpa using hp
end Go.Proofs.YtahgbgniaiccbaaGreatDoor
