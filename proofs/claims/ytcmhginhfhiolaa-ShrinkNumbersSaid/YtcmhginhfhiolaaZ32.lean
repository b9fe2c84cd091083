/-
  Built controllers: sizes, their own trim, their outputs; plain.
  Least controllers: no two states have the same outputs, so that they are told by their outputs; runs; plain.
  The examples of the head: their trimmed, least and loose controllers; plain.
  Controllers in a block; literals; bytes; rows of bools of the call's own.
-/
import Derived.Test.YtcmhginhfhiolaaZ26
import Derived.Test.YtcmhginhfhiolaaZ08
import Derived.Test.YtcmhginhfhiolaaZ07
set_option linter.unusedVariables false
set_option linter.unusedSimpArgs false
namespace Go.Proofs.Ytcmhginhfhiolaa

section
variable {A : Mac}
theorem pos_iso (h : A.Ok) : Iso (posM A) A fun i => (ord A).getD i 0 := by
  have hlt := ord_lt (posM_ok h)
  refine ⟨rfl, rfl, ord_zero.symm, fun p q hp hq e => getD_inj ord_nodup (hlt p hp) (hlt q hq) e, fun q x hq hx => ?_⟩
  have hq2 := hlt q hq
  simp only [posM] at hq2 hx ⊢
  rcases hm : A.mv ((ord A).getD q 0) x with _ | ⟨o', t'⟩
  · rfl
  · simp only [Option.map_some]
    rw [getD_idxOf (ord_to h (getD_mem _ _ hq2) hx hm)]
theorem pos_ord (h : A.Ok) : ord (posM A) = List.range (ord A).length := by
  have ho := iso_ord (pos_iso h) (posM_ok h) h
  have hl : (ord (posM A)).length = (ord A).length := by
    have := congrArg List.length ho
    rw [List.length_map] at this; exact this.symm
  refine List.ext_getElem (by rw [hl, List.length_range]) fun i h1 h2 => ?_
  rw [List.getElem_range]
  have hi : i < (ord A).length := by rw [← hl]; exact h1
  have e : (ord A).getD i 0 = ((ord (posM A)).map fun i => (ord A).getD i 0).getD i 0 := congrArg (fun l => l.getD i 0) ho
  have e2 : ((ord (posM A)).map fun i => (ord A).getD i 0).getD i 0 = (ord A).getD ((ord (posM A))[i]) 0 := by
    rw [List.getD_eq_getElem?_getD, List.getElem?_map, List.getElem?_eq_getElem h1]; rfl
  exact (getD_inj ord_nodup hi (ord_lt (posM_ok h) _ (List.getElem_mem h1)) (e.trans e2)).symm
theorem built_mv (h : A.Ok) {i x : Nat} (hi : i < (ord A).length) (hx : x < A.ins) : (wholeM (build A)).mv i x = some (((posM A).mv i x).getD (0, i)) := by
  show some (((build A).out.getD i []).getD x 0, (((build A).next.getD i []).getD x 0).toNat) = some ((((A.mv ((ord A).getD i 0) x).map fun z => (z.1, (ord A).idxOf z.2))).getD (0, i))
  have e1 : (build A).out.getD i [] = bOut A ((ord A).getD i 0) := bOuts_get A hi
  have e2 : (build A).next.getD i [] = bNext A (ord A) i ((ord A).getD i 0) := bNexts_get A hi
  rw [e1, e2, bOut_get A _ hx, bNext_get A _ _ _ hx]
  rcases A.mv ((ord A).getD i 0) x with _ | ⟨o, t⟩ <;> rfl
theorem built_size : (wholeM (build A)).size = (ord A).length := (build_len A).1
theorem built_ok (h : A.Ok) : (wholeM (build A)).Ok := by
  refine ⟨by rw [built_size]; exact ord_pos, fun q x o t hq hx e => ?_⟩
  rw [built_size] at hq ⊢
  have hx' : x < A.ins := hx
  rw [built_mv h hq hx'] at e
  injection e with e
  rcases hm : (posM A).mv q x with _ | ⟨o1, t1⟩
  · rw [hm] at e
    injection e with _ e
    omega
  · rw [hm] at e
    injection e with _ e
    have e : t1 = t := e
    rw [← e]
    exact (posM_ok h).tgt q x o1 t1 hq hx' hm
theorem row_self {M N : Mac} {q : Nat} (h : ∀ x, x < M.ins → N.mv q x = some ((M.mv q x).getD (0, q))) {l : List Nat} (hq : q ∈ l) : ∀ k, k ≤ M.ins → rowTo N q l k = rowTo M q l k
  | 0, _ => rfl
  | k + 1, hk => by
    rw [rowTo, rowTo, row_self h hq k (by omega), h k (by omega)]
    rcases M.mv q k with _ | ⟨o, t⟩
    · show (if q ∈ rowTo M q l k then rowTo M q l k else _) = rowTo M q l k
      rw [if_pos ((rowTo_pre q l k).subset hq)]
    · rfl
theorem at_self {M N : Mac} (hs : N.start = M.start) (hi : N.ins = M.ins) (hM : M.Ok) (h : ∀ q x, q < M.size → x < M.ins → N.mv q x = some ((M.mv q x).getD (0, q))) : ∀ k, ordAt N k = ordAt M k
  | 0 => by rw [ordAt, ordAt, hs]
  | k + 1 => by
    rw [ordAt, ordAt, at_self hs hi hM h k, hi]
    split
    · rename_i hk
      exact row_self (fun x hx => h _ x (ordAt_lt hM k _ (getD_mem _ 0 hk)) hx) (getD_mem _ 0 hk) _ (Nat.le_refl _)
    · rfl
theorem built_ord (h : A.Ok) : ord (wholeM (build A)) = List.range (ord A).length := by
  have e : (wholeM (build A)).size = (posM A).size := built_size
  show ordAt (wholeM (build A)) (wholeM (build A)).size = _
  rw [at_self (M := posM A) (N := wholeM (build A)) rfl rfl (posM_ok h) (fun q x hq hx => built_mv h hq hx), e]
  exact pos_ord h
theorem build_eta (B : Mac) : build B = ⟨B.ins, B.outs, 0, bOuts B (ord B).length, bNexts B (ord B).length⟩ := rfl
/-- What was built is its own trim. -/
theorem built_trim (h : A.Ok) : build (wholeM (build A)) = build A := by
  have ho := built_ord h
  have hl : (ord (wholeM (build A))).length = (ord A).length := by rw [ho, List.length_range]
  have hg : ∀ n, n < (ord A).length → (ord (wholeM (build A))).getD n 0 = n := fun n hn => by rw [ho]; simp [List.getD, hn]
  have hok := posM_ok h
  have e1 : bOuts (wholeM (build A)) (ord A).length = bOuts A (ord A).length := by
    unfold bOuts
    apply List.map_congr_left
    intro n hn
    rw [List.mem_range] at hn
    rw [hg n hn]
    unfold bOut
    apply List.map_congr_left
    intro x hx
    have hx' : x < A.ins := List.mem_range.1 hx
    rw [built_mv h hn hx']
    show (((A.mv ((ord A).getD n 0) x).map fun z => (z.1, (ord A).idxOf z.2)).getD (0, n)).1 = _
    rcases A.mv ((ord A).getD n 0) x with _ | ⟨o, t⟩ <;> rfl
  have e2 : bNexts (wholeM (build A)) (ord A).length = bNexts A (ord A).length := by
    unfold bNexts
    apply List.map_congr_left
    intro n hn
    rw [List.mem_range] at hn
    rw [hg n hn]
    unfold bNext
    apply List.map_congr_left
    intro x hx
    have hx' : x < A.ins := List.mem_range.1 hx
    rw [built_mv h hn hx', ho]
    have hr : ∀ t, t < (ord A).length → (List.range (ord A).length).idxOf t = t := fun t ht => by
      have := idxOf_getD (l := List.range (ord A).length) List.nodup_range (i := t) (by simp [ht])
      rwa [show (List.range (ord A).length).getD t 0 = t from by simp [List.getD, ht]] at this
    show (((List.range (ord A).length).idxOf (((A.mv ((ord A).getD n 0) x).map fun z => (z.1, (ord A).idxOf z.2)).getD (0, n)).2 : Nat) : Int) = _
    rcases hm : A.mv ((ord A).getD n 0) x with _ | ⟨o, t⟩
    · show (((List.range (ord A).length).idxOf n : Nat) : Int) = _
      rw [hr n hn]
    · show (((List.range (ord A).length).idxOf ((ord A).idxOf t) : Nat) : Int) = _
      rw [hr _ (List.idxOf_lt_length_of_mem (ord_to h (getD_mem _ 0 hn) hx' hm))]
  rw [build_eta (wholeM (build A)), hl, e1, e2]
  rfl
theorem mealyB_of {m : Mly} (h : Sized m) : mealyB m = true := by
  have r1 : rowsB m.ins m.outs m.out = true := allN_true.2 fun q hq => by
    unfold rowB belowB
    have h0 := h.outr q 0 hq (by have := h.i1; omega)
    rw [Bool.and_eq_true, decide_eq_true_eq]
    exact ⟨h0.1, allN_true.2 fun x hx => by
      have := h.outr q x hq (by omega)
      rw [Bool.and_eq_true, decide_eq_true_eq, decide_eq_true_eq]; exact this.2⟩
  have r2 : rowsB m.ins m.out.length m.next = true := allN_true.2 fun q hq => by
    unfold rowB belowB
    have hq' : q < m.out.length := by have := h.nn; omega
    have h0 := h.nextr q 0 hq' (by have := h.i1; omega)
    rw [Bool.and_eq_true, decide_eq_true_eq]
    exact ⟨h0.1, allN_true.2 fun x hx => by
      have := h.nextr q x hq' (by omega)
      rw [Bool.and_eq_true, decide_eq_true_eq, decide_eq_true_eq]; exact this.2⟩
  simp only [mealyB, Bool.and_eq_true, decide_eq_true_eq]
  exact ⟨⟨⟨⟨⟨⟨⟨⟨⟨h.i1, h.i2⟩, h.o1⟩, h.o2⟩, h.n2⟩, h.s0⟩, h.s1⟩, h.nn⟩, r1⟩, r2⟩
theorem built_sized (h : A.Ok) (i1 : 1 ≤ A.ins) (i2 : A.ins ≤ 64) (o1 : 1 ≤ A.outs) (o2 : A.outs ≤ 64) (n2 : (ord A).length ≤ 3000) (hv : ∀ q x o t, q ∈ ord A → x < A.ins → A.mv q x = some (o, t) → 0 ≤ o ∧ o < A.outs) : Sized (build A) := by
  have hins : (build A).ins = (A.ins : Int) := rfl
  have houts : (build A).outs = A.outs := rfl
  have hl := build_len A
  have hp := ord_pos (M := A)
  have hmv : ∀ q x : Nat, q < (build A).out.length → (x : Int) < (build A).ins → q < (ord A).length ∧ x < A.ins := fun q x hq hx => by rw [hl.1] at hq; rw [hins] at hx; exact ⟨hq, by omega⟩
  refine ⟨by rw [hins]; omega, by rw [hins]; omega, o1, o2, by omega, by omega, Int.le_refl 0, by show (0 : Int) < _; omega, by omega, fun q x hq hx => ?_, fun q x hq hx => ?_⟩
  · obtain ⟨hq', hx'⟩ := hmv q x hq hx
    have e1 : (build A).out.getD q [] = bOut A ((ord A).getD q 0) := bOuts_get A hq'
    rw [e1, bOut_get A _ hx']
    refine ⟨by rw [hins]; simp [bOut], ?_⟩
    rcases hm : A.mv ((ord A).getD q 0) x with _ | ⟨o, t⟩
    · exact ⟨Int.le_refl 0, by show (0 : Int) < A.outs; omega⟩
    · exact hv _ x o t (getD_mem _ 0 hq') hx' hm
  · obtain ⟨hq', hx'⟩ := hmv q x hq hx
    have e2 : (build A).next.getD q [] = bNext A (ord A) q ((ord A).getD q 0) := bNexts_get A hq'
    rw [e2, bNext_get A _ _ _ hx']
    refine ⟨by rw [hins]; simp [bNext], ?_⟩
    rcases hm : A.mv ((ord A).getD q 0) x with _ | ⟨o, t⟩
    · show (0 : Int) ≤ (q : Int) ∧ (q : Int) < _
      omega
    · have := List.idxOf_lt_length_of_mem (ord_to h (getD_mem _ 0 hq') hx' hm)
      show (0 : Int) ≤ ((ord A).idxOf t : Int) ∧ ((ord A).idxOf t : Int) < _
      omega
end

/-- Whatever C does from i, N does from j. -/
def Fol (C N : Mac) (R : Rel) : Prop := ∀ i j, R i j → ∀ x, x < C.ins → ∀ o t, C.mv i x = some (o, t) → ∃ t', N.mv j x = some (o, t') ∧ R t t'
section
variable {C : Mac} {E : Rel} {X : Mly}
theorem quo_fol (hC : C.Ok) (h : IsQuo (posM C) E X) : ∃ R : Rel, Fol C (wholeM X) R ∧ R C.start 0 ∧ ∀ q j, R q j → q ∈ ord C ∧ j < X.out.length := by
  obtain ⟨p, M, hq, hM, hr, rfl⟩ := h
  have hL := posM_ok hC
  refine ⟨fun q j => q ∈ ord C ∧ j < (ord M).length ∧ (ord M).getD j 0 = p ((ord C).idxOf q), fun q j ⟨hqm, hj, he⟩ x hx o t hm => ?_, ⟨ord_start, ord_pos, ?_⟩, fun q j hqj => ⟨hqj.1, by rw [(build_len M).1]; exact hqj.2.1⟩⟩
  · have hi : (ord C).idxOf q < (posM C).size := List.idxOf_lt_length_of_mem hqm
    have hpm : (posM C).mv ((ord C).idxOf q) x = some (o, (ord C).idxOf t) := by
      show (C.mv ((ord C).getD ((ord C).idxOf q) 0) x).map _ = _
      rw [getD_idxOf hqm, hm]; rfl
    have hMm := hq.yes _ x o _ hi hx hpm
    have hxm : x < M.ins := by rw [hq.ins]; exact hx
    have htm := ord_to hM (getD_mem (ord M) 0 hj) hxm (by rw [he]; exact hMm)
    refine ⟨(ord M).idxOf (p ((ord C).idxOf t)), ?_, ord_to hC hqm hx hm, List.idxOf_lt_length_of_mem htm, getD_idxOf htm⟩
    rw [built_mv hM hj hxm]
    show some (((M.mv ((ord M).getD j 0) x).map fun z => (z.1, (ord M).idxOf z.2)).getD (0, j)) = _
    rw [he, hMm]; rfl
  · rw [ord_zero, hq.st]
    show p 0 = p ((ord C).idxOf C.start)
    have : (ord C).idxOf C.start = 0 := by rw [← ord_zero (M := C)]; exact idxOf_getD ord_nodup ord_pos
    rw [this]
theorem quo_own (hC : C.Ok) : IsQuo (posM C) (fun i j => i = j) (build C) :=
  ⟨id, posM C, ⟨rfl, rfl, rfl, fun i x o t _ _ h => h, fun i x hi _ h => h i hi rfl⟩, posM_ok hC, fun _ _ _ _ => Iff.rfl, build_pos hC⟩
theorem quo_len {L M : Mac} {p : Nat → Nat} (h : Quo L p M) (hL : L.Ok) (hM : M.Ok) : (ord M).length ≤ L.size := by
  have := nodup_le (ord M) ((List.range L.size).map p) ord_nodup fun q hq => by
    obtain ⟨i, hi, e⟩ := h.image hL hM q hq
    exact List.mem_map.2 ⟨i, List.mem_range.2 hi, e⟩
  simpa using this
theorem quo_out {L M : Mac} {p : Nat → Nat} (h : Quo L p M) (hL : L.Ok) (hM : M.Ok) {P : Int → Prop} (hP : ∀ i x o t, i < L.size → x < L.ins → L.mv i x = some (o, t) → P o) {q x : Nat} {o : Int} {t : Nat} (hq : q ∈ ord M) (hx : x < M.ins) (e : M.mv q x = some (o, t)) : P o := by
  obtain ⟨i, hi, rfl⟩ := h.image hL hM q hq
  rw [h.ins] at hx
  rcases h.cases hi hx with ⟨j, o', t', hj, _, ej, em'⟩ | ⟨_, em'⟩
  · rw [em'] at e
    injection e with e
    injection e with e1 _
    rw [← e1]
    exact hP j x o' t' hj hx ej
  · rw [em'] at e; cases e
end
section
variable {m X : Mly} {care : List (List Bool)} {E : Rel}
theorem care_out (hS : Sized m) {q x : Nat} {o : Int} {t : Nat} (hq : q < m.out.length) (hx : x < m.ins.toNat) (e : (careM m care).mv q x = some (o, t)) : (careM m care).mv q x = (wholeM m).mv q x ∧ 0 ≤ o ∧ o < m.outs := by
  have e' : (if (care.getD q []).getD x false = true then some ((m.out.getD q []).getD x 0, ((m.next.getD q []).getD x 0).toNat) else none) = some (o, t) := e
  split at e'
  · rename_i hc
    refine ⟨by rw [e, ← e']; rfl, ?_⟩
    injection e' with e'
    injection e' with e1 _
    rw [← e1]
    exact (hS.outr q x hq (by omega)).2
  · cases e'
theorem quo_shape (hS : Sized m) (h : IsQuo (posM (careM m care)) E X) : X.ins = m.ins ∧ X.outs = m.outs ∧ X.start = 0 ∧ X.out.length ≤ (ord (careM m care)).length ∧ Sized X ∧ build (wholeM X) = X := by
  obtain ⟨p, M, hq, hM, hr, rfl⟩ := h
  have hC := care_ok hS care
  have hL := posM_ok hC
  have hi := hq.ins
  have ho := hq.outs
  have hn := quo_len hq hL hM
  have hlen : (posM (careM m care)).size = (ord (careM m care)).length := rfl
  have hol := ord_len hC
  have hsz : (careM m care).size = m.out.length := rfl
  have i1 := hS.i1
  have i2 := hS.i2
  have n2 := hS.n2
  have hin : (posM (careM m care)).ins = m.ins.toNat := rfl
  have hou : (posM (careM m care)).outs = m.outs := rfl
  refine ⟨?_, ho, rfl, by rw [(build_len M).1]; exact hn, ?_, built_trim hM⟩
  · show (M.ins : Int) = m.ins
    omega
  · refine built_sized hM (by omega) (by omega) (by rw [ho]; exact hS.o1) (by rw [ho]; exact hS.o2) (by omega) fun q x o t hqm hx e => ?_
    rw [ho]
    refine quo_out hq hL hM (P := fun o => 0 ≤ o ∧ o < m.outs) (fun i x o t hi hx e => ?_) hqm hx e
    have e' : ((careM m care).mv ((ord (careM m care)).getD i 0) x).map (fun z => (z.1, (ord (careM m care)).idxOf z.2)) = some (o, t) := e
    have hqi := ord_lt hC _ (getD_mem (ord (careM m care)) 0 hi)
    rcases hmv : (careM m care).mv ((ord (careM m care)).getD i 0) x with _ | ⟨o1, t1⟩
    · rw [hmv] at e'; cases e'
    · rw [hmv] at e'
      injection e' with e'
      injection e' with e1 _
      have e1 : o1 = o := e1
      rw [← e1]
      exact (care_out hS hqi hx hmv).2
/-- The whole controller is that of a care in which all moves matter. -/
theorem whole_quo (hS : Sized m) : IsQuo (posM (careM m (everyZ m true m.out.length))) (fun i j => i = j) (build (wholeM m)) := by
  have hA := whole_ok hS
  have hC := care_ok hS (everyZ m true m.out.length)
  have : build (careM m (everyZ m true m.out.length)) = build (wholeM m) := build_iso (f := id) ⟨rfl, rfl, rfl, fun p q _ _ e => e, fun q x hq hx => by
    show (careM m (everyZ m true m.out.length)).mv q x = _
    rw [every_mv (ord_lt hA q hq) hx]
    rcases (wholeM m).mv q x with _ | ⟨o, t⟩ <;> rfl⟩ hA hC
  rw [← this]
  exact quo_own hC
/-- Where all moves matter, what is built has the same outputs. -/
theorem quo_sim (hS : Sized m) (h : IsQuo (posM (careM m (everyZ m true m.out.length))) E X) : Sim (wholeM m) (wholeM X) m.start.toNat 0 := by
  have hC := care_ok hS (everyZ m true m.out.length)
  obtain ⟨R, hF, h0, hR⟩ := quo_fol hC h
  refine ⟨R, fun i j hij x hx => ?_, h0⟩
  have hi := ord_lt hC i (hR i j hij).1
  have hm : (wholeM m).mv i x = some ((m.out.getD i []).getD x 0, ((m.next.getD i []).getD x 0).toNat) := rfl
  obtain ⟨t', h1, h2⟩ := hF i j hij x hx _ _ (by rw [every_mv hi hx]; exact hm)
  exact ⟨_, _, t', hm, h1, h2⟩
end
end Go.Proofs.Ytcmhginhfhiolaa
set_option linter.unusedVariables false
set_option linter.unusedSimpArgs false
namespace Go.Proofs.Ytcmhginhfhiolaa

/-- States with the same outputs are one. -/
def Red (N : Mac) : Prop := ∀ i j, i < N.size → j < N.size → Sim N N i j → i = j
abbrev LeastIs (m X : Mly) : Prop := IsQuo (posM (careM m (everyZ m true m.out.length))) (final (posM (careM m (everyZ m true m.out.length)))) X
section
variable {m X Y : Mly}
theorem every_pos_total (hS : Sized m) : Total (posM (careM m (everyZ m true m.out.length))) := fun i x hi hx => by
  have hC := care_ok hS (everyZ m true m.out.length)
  have hq := ord_lt hC _ (getD_mem (ord (careM m (everyZ m true m.out.length))) 0 hi)
  obtain ⟨o, t, e⟩ := whole_total m _ x hq hx
  refine ⟨o, (ord (careM m (everyZ m true m.out.length))).idxOf t, ?_⟩
  show ((careM m (everyZ m true m.out.length)).mv _ x).map _ = _
  rw [every_mv hq hx, e]
  rfl
theorem built_to {L M : Mac} {p : Nat → Nat} (hq : Quo L p M) (hM : M.Ok) {i a x : Nat} {o : Int} {t : Nat} (hi : i < (ord M).length) (ha : a < L.size) (hx : x < L.ins) (ea : p a = (ord M).getD i 0) (e : L.mv a x = some (o, t)) :
    (wholeM (build M)).mv i x = some (o, (ord M).idxOf (p t)) ∧ p t ∈ ord M := by
  have hMm := hq.yes a x o t ha hx e
  have hxm : x < M.ins := by rw [hq.ins]; exact hx
  rw [ea] at hMm
  refine ⟨?_, ord_to hM (getD_mem (ord M) 0 hi) hxm hMm⟩
  rw [built_mv hM hi hxm]
  show some (((M.mv ((ord M).getD i 0) x).map fun z => (z.1, (ord M).idxOf z.2)).getD (0, i)) = _
  rw [hMm]; rfl
theorem least_red (hS : Sized m) (h : LeastIs m X) : Red (wholeM X) := by
  have hC := care_ok hS (everyZ m true m.out.length)
  have hL := posM_ok hC
  have ht := every_pos_total hS
  obtain ⟨L, hLe⟩ : ∃ L, L = posM (careM m (everyZ m true m.out.length)) := ⟨_, rfl⟩
  unfold LeastIs at h
  rw [← hLe] at h hL ht
  obtain ⟨p, M, hq, hM, hr, rfl⟩ := h
  intro i j hi hj hs
  rw [built_size] at hi hj
  obtain ⟨a, ha, ea⟩ := hq.image hL hM _ (getD_mem (ord M) 0 hi)
  obtain ⟨b, hb, eb⟩ := hq.image hL hM _ (getD_mem (ord M) 0 hj)
  have hab : Sim L L a b := by
    refine ⟨fun a b => ∃ i j, a < L.size ∧ b < L.size ∧ i < (ord M).length ∧ j < (ord M).length ∧ p a = (ord M).getD i 0 ∧ p b = (ord M).getD j 0 ∧ Sim (wholeM (build M)) (wholeM (build M)) i j, ?_, i, j, ha, hb, hi, hj, ea, eb, hs⟩
    rintro a b ⟨i, j, ha, hb, hi, hj, ea, eb, hs⟩ x hx
    obtain ⟨o, t, e1⟩ := ht a x ha hx
    obtain ⟨o', t', e2⟩ := ht b x hb hx
    have m1 := built_to hq hM hi ha hx ea e1
    have m2 := built_to hq hM hj hb hx eb e2
    have hxm : x < (wholeM (build M)).ins := by
      show x < ((M.ins : Int)).toNat
      rw [hq.ins]; exact hx
    obtain ⟨e3, hs'⟩ := sim_step hs hxm m1.1 m2.1
    subst e3
    exact ⟨o, t, t', e1, e2, _, _, hL.tgt a x o t ha hx e1, hL.tgt b x o t' hb hx e2, List.idxOf_lt_length_of_mem m1.2, List.idxOf_lt_length_of_mem m2.2, (getD_idxOf m1.2).symm, (getD_idxOf m2.2).symm, hs'⟩
  have hp := (hr a b ha hb).2 ((final_sim hL ht ha hb).2 hab)
  exact getD_inj ord_nodup hi hj (by rw [← ea, ← eb, hp])
/-- Machines without two such states: their outputs tell them. -/
theorem red_iso {N N' : Mac} (hN : N.Ok) (hN' : N'.Ok) (hr : Red N) (hr' : Red N') (hi : N'.ins = N.ins) (ho : N'.outs = N.outs) (hs : Sim N N' N.start N'.start) : build N' = build N := by
  have all : ∀ q ∈ ord N, ∃ r, r ∈ ord N' ∧ Sim N N' q r := ord_ind hN ⟨_, ord_start, hs⟩ fun q x o t _ ⟨r, hr, R, hR, hqr⟩ hx e => by
    obtain ⟨o2, t2, t3, e2, e3, ht⟩ := hR q r hqr x hx
    rw [e] at e2
    injection e2 with e2
    injection e2 with _ e2
    subst e2
    exact ⟨t3, ord_to hN' hr (by rw [hi]; exact hx) e3, R, hR, ht⟩
  obtain ⟨f, hf⟩ : ∃ f : Nat → Nat, ∀ q ∈ ord N, f q ∈ ord N' ∧ Sim N N' q (f q) := by
    classical
    refine ⟨fun q => if h : q ∈ ord N then Classical.choose (all q h) else 0, fun q hq => ?_⟩
    simp only [hq, dite_true]
    exact Classical.choose_spec (all q hq)
  have lt := ord_lt hN
  have lt' := ord_lt hN'
  refine build_iso (f := f) ⟨hi, ho, ?_, fun p q hp hq e => ?_, fun q x hq hx => ?_⟩ hN hN'
  · exact hr' _ _ hN'.st (lt' _ (hf _ ord_start).1) (sim_trans hi.symm (sim_symm hi hs) (hf _ ord_start).2)
  · refine hr p q (lt p hp) (lt q hq) (sim_trans hi (hf p hp).2 ?_)
    rw [e]
    exact sim_symm hi (hf q hq).2
  · obtain ⟨R, hR, hqr⟩ := (hf q hq).2
    obtain ⟨o, t, t', e, e', ht⟩ := hR q (f q) hqr x hx
    have htm := ord_to hN hq hx e
    have ht' := ord_to hN' (hf q hq).1 (by rw [hi]; exact hx) e'
    have : f t = t' := hr' _ _ (lt' _ (hf t htm).1) (lt' _ ht') (sim_trans hi.symm (sim_symm hi (hf t htm).2) ⟨R, hR, ht⟩)
    rw [e, e', ← this]; rfl
theorem built_one (hX : Sized X) (hY : Sized Y) (bX : build (wholeM X) = X) (bY : build (wholeM Y) = Y) (hr : Red (wholeM X)) (hr' : Red (wholeM Y)) (hi : Y.ins = X.ins) (ho : Y.outs = X.outs) (hs : Sim (wholeM X) (wholeM Y) X.start.toNat Y.start.toNat) : Y = X := by
  rw [← bX, ← bY]
  exact red_iso (whole_ok hX) (whole_ok hY) hr hr' (by show Y.ins.toNat = X.ins.toNat; rw [hi]) ho hs
theorem same_symm {a b : Mly} (h : SameP a b) : SameP b a := ⟨h.2.1, h.1, h.2.2.1.symm, h.2.2.2.1.symm, sim_symm (show b.ins.toNat = a.ins.toNat by rw [h.2.2.1]) h.2.2.2.2⟩
theorem same_trans {a b c : Mly} (h : SameP a b) (k : SameP b c) : SameP a c := ⟨h.1, k.2.1, h.2.2.1.trans k.2.2.1, h.2.2.2.1.trans k.2.2.2.1, sim_trans (show b.ins.toNat = a.ins.toNat by rw [h.2.2.1]) h.2.2.2.2 k.2.2.2.2⟩
theorem same_refl (h : mealyB m = true) : SameP m m := ⟨h, h, rfl, rfl, sim_refl (whole_ok (sized_of h)) (whole_total m) (whole_ok (sized_of h)).st⟩
theorem quo_same {E : Rel} (hm : mealyB m = true) (h : IsQuo (posM (careM m (everyZ m true m.out.length))) E X) : SameP m X := by
  have hS := sized_of hm
  obtain ⟨h1, h2, h3, _, h5, _⟩ := quo_shape hS h
  refine ⟨hm, mealyB_of h5, h1.symm, h2.symm, ?_⟩
  rw [h3]
  exact quo_sim hS h
theorem trim_same (hm : mealyB m = true) : SameP m (build (wholeM m)) := quo_same hm (whole_quo (sized_of hm))
theorem least_same {a b : Mly} (ha : mealyB a = true) (hb : mealyB b = true) (hX : LeastIs a X) (hY : LeastIs b Y) : SameP a b ↔ X = Y := by
  have sa := sized_of ha
  have sb := sized_of hb
  have xa := quo_same ha hX
  have xb := quo_same hb hY
  obtain ⟨_, _, _, _, h5, h6⟩ := quo_shape sa hX
  obtain ⟨_, _, _, _, k5, k6⟩ := quo_shape sb hY
  constructor
  · intro h
    have hxy := same_trans (same_symm xa) (same_trans h xb)
    exact (built_one h5 k5 h6 k6 (least_red sa hX) (least_red sb hY) hxy.2.2.1.symm hxy.2.2.2.1.symm hxy.2.2.2.2).symm
  · intro e
    subst e
    exact same_trans xa (same_symm xb)
theorem least_again (hm : mealyB m = true) {E : Rel} (hT : IsQuo (posM (careM m (everyZ m true m.out.length))) E X) {Z : Mly} (h : LeastIs m Z) (hY : LeastIs X Y) : Y = Z :=
  ((least_same hm (quo_same hm hT).2.1 h hY).1 (quo_same hm hT)).symm
theorem least_starts (hm : mealyB m = true) (h : LeastIs m X) {a b : Int} (a0 : 0 ≤ a) (a1 : a < X.out.length) (b0 : 0 ≤ b) (b1 : b < X.out.length) : SameP ⟨X.ins, X.outs, a, X.out, X.next⟩ ⟨X.ins, X.outs, b, X.out, X.next⟩ ↔ a = b := by
  have hS := sized_of hm
  obtain ⟨_, _, _, _, h5, _⟩ := quo_shape hS h
  have val : ∀ s : Int, 0 ≤ s → s < X.out.length → mealyB ⟨X.ins, X.outs, s, X.out, X.next⟩ = true := fun s s0 s1 => mealyB_of ⟨h5.i1, h5.i2, h5.o1, h5.o2, h5.n1, h5.n2, s0, s1, h5.nn, h5.outr, h5.nextr⟩
  have re : ∀ s s' : Int, Sim (wholeM ⟨X.ins, X.outs, s, X.out, X.next⟩) (wholeM ⟨X.ins, X.outs, s', X.out, X.next⟩) a.toNat b.toNat ↔ Sim (wholeM X) (wholeM X) a.toNat b.toNat := fun s s' => Iff.rfl
  constructor
  · rintro ⟨_, _, _, _, hs⟩
    have hs' := (re a b).1 hs
    have := least_red hS h a.toNat b.toNat (by show _ < X.out.length; omega) (by show _ < X.out.length; omega) hs'
    omega
  · intro e
    subst e
    exact same_refl (val a a0 a1)
/-- Runs: what C does, N does. -/
theorem fol_run {C : Mac} {R : Rel} (hF : Fol C (wholeM X) R) {s s' : Int} {l : List Int} (h0 : R s.toNat s'.toNat) : ∀ n, (∀ k, k < n → (l.getD k 0).toNat < C.ins ∧ C.mv (mSt m s l k).toNat (l.getD k 0).toNat = (wholeM m).mv (mSt m s l k).toNat (l.getD k 0).toNat) →
    mOuts m s l n = mOuts X s' l n ∧ R (mSt m s l n).toNat (mSt X s' l n).toNat
  | 0, _ => ⟨rfl, h0⟩
  | n + 1, h => by
    have ih := fol_run hF h0 n fun k hk => h k (by omega)
    have hn := h n (by omega)
    obtain ⟨t', h1, h2⟩ := hF _ _ ih.2 _ hn.1 _ _ hn.2
    have h1' : some ((X.out.getD (mSt X s' l n).toNat []).getD (l.getD n 0).toNat 0, ((X.next.getD (mSt X s' l n).toNat []).getD (l.getD n 0).toNat 0).toNat) = some ((m.out.getD (mSt m s l n).toNat []).getD (l.getD n 0).toNat 0, t') := h1
    injection h1' with h1'
    injection h1' with e1 e2
    refine ⟨?_, ?_⟩
    · show mOuts m s l n ++ [_] = mOuts X s' l n ++ [_]
      rw [ih.1, e1]
    · show R _ (((X.next.getD (mSt X s' l n).toNat []).getD (l.getD n 0).toNat 0).toNat)
      rw [e2]; exact h2
theorem sim_run (hs : Sim (wholeM m) (wholeM X) m.start.toNat X.start.toNat) {l : List Int} (hl : ∀ k, k < l.length → (l.getD k 0).toNat < m.ins.toNat) {n : Nat} (hn : n ≤ l.length) : mOuts m m.start l n = mOuts X X.start l n := by
  obtain ⟨R, hR, h0⟩ := hs
  refine (fol_run (C := wholeM m) (R := R) (fun i j hij x hx o t e => ?_) h0 n fun k hk => ⟨hl k (by omega), rfl⟩).1
  obtain ⟨o2, t2, t3, e2, e3, ht⟩ := hR i j hij x hx
  rw [e] at e2
  injection e2 with e2
  injection e2 with a1 a2
  subst a1 a2
  exact ⟨t3, e3, ht⟩
/-- Where no move matters, there is one state. -/
theorem none_one (hS : Sized m) {E : Rel} (h : IsQuo (posM (careM m (everyZ m false m.out.length))) E X) : X.out.length = 1 := by
  obtain ⟨_, _, _, h4, h5, _⟩ := quo_shape hS h
  have hmv : ∀ q x, (careM m (everyZ m false m.out.length)).mv q x = none := fun q x => by
    have e : ((everyZ m false m.out.length).getD q []).getD x false = false := by
      by_cases hq : q < m.out.length
      · rw [everyZ_get m false hq]
        by_cases hx : x < m.ins.toNat <;> simp [List.getD, hx]
      · have : (everyZ m false m.out.length).getD q [] = [] := by simp [everyZ, List.getD, hq]
        rw [this]; rfl
    show (if ((everyZ m false m.out.length).getD q []).getD x false = true then _ else none) = none
    rw [e]; rfl
  have hrow : ∀ q l k, rowTo (careM m (everyZ m false m.out.length)) q l k = l := fun q l k => by
    induction k with
    | zero => rfl
    | succ k ih => rw [rowTo, ih, hmv]; rfl
  have hat : ∀ k, (ordAt (careM m (everyZ m false m.out.length)) k).length = 1 := fun k => by
    induction k with
    | zero => rfl
    | succ k ih =>
      rw [ordAt]
      split
      · rw [hrow]; exact ih
      · exact ih
  have : (ord (careM m (everyZ m false m.out.length))).length = 1 := hat _
  have := h5.n1
  omega
end
end Go.Proofs.Ytcmhginhfhiolaa
set_option linter.unusedVariables false
set_option linter.unusedSimpArgs false
namespace Go.Proofs.Ytcmhginhfhiolaa

def m3 : Mly := ⟨2, 2, 0, [[0, 0], [0, 0], [0, 1]], [[1, 2], [1, 2], [1, 2]]⟩
def care3 : List (List Bool) := [[true, true], [true, true], [true, false]]
def far3 : Mly := ⟨1, 3, 2, [[0], [1], [2]], [[1], [0], [0]]⟩
def least3 : Mly := ⟨2, 2, 0, [[0, 0], [0, 1]], [[0, 1], [0, 1]]⟩
def loose3 : Mly := ⟨2, 2, 0, [[0, 0]], [[0, 0]]⟩
def trim3 : Mly := ⟨1, 3, 0, [[2], [0], [1]], [[1], [2], [1]]⟩
theorem m3_ok : mealyB m3 = true := by kernel_rfl
theorem least3_ok : mealyB least3 = true := by kernel_rfl
theorem far3_trim : trimZ far3 = trim3 := by kernel_rfl
theorem care3_ok : caresB m3 care3 = true := by kernel_rfl
theorem least3_trim : build (wholeM least3) = least3 := by kernel_rfl
theorem least3_red : Red (wholeM least3) := by
  have key : ¬ Sim (wholeM least3) (wholeM least3) 0 1 := fun h => by
    have := (sim_step h (x := 1) (show 1 < 2 by omega) (show (wholeM least3).mv 0 1 = some (0, 1) by kernel_rfl) (show (wholeM least3).mv 1 1 = some (1, 1) by kernel_rfl)).1
    omega
  intro i j hi hj h
  have hi : i < 2 := hi
  have hj : j < 2 := hj
  rcases Nat.lt_or_ge i 1 with a | a
  · obtain rfl : i = 0 := by omega
    rcases Nat.lt_or_ge j 1 with b | b
    · omega
    · obtain rfl : j = 1 := by omega
      exact absurd h key
  · obtain rfl : i = 1 := by omega
    rcases Nat.lt_or_ge j 1 with b | b
    · obtain rfl : j = 0 := by omega
      exact absurd (sim_symm rfl h) key
    · omega
theorem least3_same : SameP m3 least3 := by
  refine ⟨m3_ok, least3_ok, rfl, rfl, fun i j => (i = 0 ∧ j = 0) ∨ (i = 1 ∧ j = 0) ∨ (i = 2 ∧ j = 1), fun i j h x hx => ?_, Or.inl ⟨rfl, rfl⟩⟩
  have hx : x < 2 := hx
  rcases Nat.lt_or_ge x 1 with a | a
  · obtain rfl : x = 0 := by omega
    rcases h with ⟨rfl, rfl⟩ | ⟨rfl, rfl⟩ | ⟨rfl, rfl⟩
    · exact ⟨0, 1, 0, by kernel_rfl, by kernel_rfl, by simp⟩
    · exact ⟨0, 1, 0, by kernel_rfl, by kernel_rfl, by simp⟩
    · exact ⟨0, 1, 0, by kernel_rfl, by kernel_rfl, by simp⟩
  · obtain rfl : x = 1 := by omega
    rcases h with ⟨rfl, rfl⟩ | ⟨rfl, rfl⟩ | ⟨rfl, rfl⟩
    · exact ⟨0, 2, 1, by kernel_rfl, by kernel_rfl, by simp⟩
    · exact ⟨0, 2, 1, by kernel_rfl, by kernel_rfl, by simp⟩
    · exact ⟨1, 2, 1, by kernel_rfl, by kernel_rfl, by simp⟩
theorem least3_is {X : Mly} (h : LeastIs m3 X) : X = least3 := by
  have hS := sized_of m3_ok
  obtain ⟨h1, h2, h3, _, h5, h6⟩ := quo_shape hS h
  have hs := same_trans (same_symm least3_same) (quo_same m3_ok h)
  exact built_one (sized_of least3_ok) h5 least3_trim h6 least3_red (least_red hS h) hs.2.2.1.symm hs.2.2.2.1.symm hs.2.2.2.2
/-- Where all states can be one class, they are. -/
theorem all_one {L : Mac} (hT : Good L (fun _ _ => True)) : ∀ n, n ≤ L.size → ∀ i j, i < n → j < n → mergeTo L n i j
  | 0, _, i, j, hi, _ => by omega
  | n + 1, hn, i, j, hi, hj => by
    have hE := merge_good (L := L) n
    have hk : ∀ k, k ≤ n → 1 ≤ k → ∃ j, j < k ∧ (tryTo L (mergeTo L n) n k).1 n j := fun k => by
      induction k with
      | zero => intro _ h; omega
      | succ k ih =>
        intro hk _
        rcases try_split (L := L) (E := mergeTo L n) (n := n) k with h1 | ⟨h1, h2, h3⟩
        · rw [try_same h1]
          rcases h1 with h1 | h1 | h1
          · rcases Nat.eq_zero_or_pos k with e | e
            · subst e; exact absurd h1 (fun x => x)
            · obtain ⟨j, hj, hr⟩ := ih (by omega) e
              exact ⟨j, by omega, hr⟩
          · exact ⟨k, by omega, h1⟩
          · exact absurd ⟨fun _ _ => True, hT, fun _ _ _ _ _ => trivial, trivial⟩ h1
        · rw [(try_yes h1 h2 h3).1]
          exact ⟨k, by omega, join_has⟩
    have hG := try_good (n := n) hE n
    have old : ∀ a b, a < n → b < n → mergeTo L (n + 1) a b := fun a b ha hb => hG.2 a b (by omega) (by omega) (all_one hT n (by omega) a b ha hb)
    have new : ∀ b, b < n → mergeTo L (n + 1) n b := fun b hb => by
      obtain ⟨k, hk, e⟩ := hk n (Nat.le_refl _) (by omega)
      exact hG.1.trans n k b e (old k b hk hb)
    by_cases h1 : i = n
    · subst h1
      by_cases h2 : j = i
      · subst h2; exact hG.1.refl _ (by omega)
      · exact new j (by omega)
    · by_cases h2 : j = n
      · subst h2; exact hG.1.symm _ _ (new i (by omega))
      · exact old i j (by omega) (by omega)
theorem loose3_is {X : Mly} (h : IsQuo (posM (careM m3 care3)) (final (posM (careM m3 care3))) X) : X = loose3 := by
  have hC := posM_ok (care_ok (sized_of m3_ok) care3)
  have hsz : (posM (careM m3 care3)).size = 3 := by kernel_rfl
  have hins : (posM (careM m3 care3)).ins = 2 := by kernel_rfl
  have mv0 : ∀ i, i < 3 → (posM (careM m3 care3)).mv i 0 = some (0, 1) := fun i hi => by
    rcases (show i = 0 ∨ i = 1 ∨ i = 2 by omega) with rfl | rfl | rfl <;> kernel_rfl
  have mv1 : ∀ i, i < 2 → (posM (careM m3 care3)).mv i 1 = some (0, 2) := fun i hi => by
    rcases (show i = 0 ∨ i = 1 by omega) with rfl | rfl <;> kernel_rfl
  have mv2 : (posM (careM m3 care3)).mv 2 1 = none := by kernel_rfl
  have ho : ∀ i x o t, i < (posM (careM m3 care3)).size → x < (posM (careM m3 care3)).ins → (posM (careM m3 care3)).mv i x = some (o, t) → o = 0 := fun i x o t hi hx e => by
    rw [hsz] at hi
    rw [hins] at hx
    rcases (show x = 0 ∨ x = 1 by omega) with rfl | rfl
    · rw [mv0 i hi] at e
      injection e with e
      injection e with e _
      exact e.symm
    · by_cases h2 : i < 2
      · rw [mv1 i h2] at e
        injection e with e
        injection e with e _
        exact e.symm
      · obtain rfl : i = 2 := by omega
        rw [mv2] at e; cases e
  have hT : Good (posM (careM m3 care3)) (fun _ _ => True) := ⟨fun _ _ => trivial, fun _ _ _ => trivial, fun _ _ _ _ _ => trivial, fun i j x o t o' t' hi hj _ hx e e' => ⟨by rw [ho i x o t hi hx e, ho j x o' t' hj hx e'], trivial⟩⟩
  refine isQuo_one hC h ⟨fun _ => 0, ⟨1, 0, 2, 2, fun _ _ => some (0, 0)⟩, ⟨rfl, rfl, rfl, fun i x o t hi hx e => ?_, fun i x hi hx hn => ?_⟩, ⟨Nat.zero_lt_one, fun q x o t _ _ e => ?_⟩, fun i j hi hj => ⟨fun _ => all_one hT _ (Nat.le_refl _) i j hi hj, fun _ => rfl⟩, by kernel_rfl⟩
  · rw [ho i x o t hi hx e]
  · rw [hins] at hx
    have h0 := hn 0 (by rw [hsz]; omega) rfl
    rcases (show x = 0 ∨ x = 1 by omega) with rfl | rfl
    · rw [mv0 0 (by omega)] at h0; cases h0
    · rw [mv1 0 (by omega)] at h0; cases h0
  · have e : some ((0 : Int), 0) = some (o, t) := e
    injection e with e
    injection e with _ e
    show t < 1
    omega
theorem loose3_not : ¬ SameP m3 loose3 := fun h => by
  have h0 : Sim (wholeM m3) (wholeM loose3) 0 0 := h.2.2.2.2
  have h1 := (sim_step h0 (x := 1) (show 1 < 2 by omega) (show (wholeM m3).mv 0 1 = some (0, 2) by kernel_rfl) (show (wholeM loose3).mv 0 1 = some (0, 0) by kernel_rfl)).2
  have := (sim_step h1 (x := 1) (show 1 < 2 by omega) (show (wholeM m3).mv 2 1 = some (1, 2) by kernel_rfl) (show (wholeM loose3).mv 0 1 = some (0, 0) by kernel_rfl)).1
  omega
theorem far3_not : ¬ SameP m3 far3 := fun h => by
  have : (2 : Int) = 1 := h.2.2.1
  omega
theorem zero_not : ¬ SameP zeroMly zeroMly := fun h => by
  have e : mealyB zeroMly = false := by kernel_rfl
  have h1 := h.1
  rw [e] at h1
  cases h1
theorem run3 : mOuts least3 0 [1, 1, 0, 1] 4 = [0, 1, 0, 0] ∧ mSt least3 0 [1, 1, 0, 1] 4 = 1 := by constructor <;> kernel_rfl
end Go.Proofs.Ytcmhginhfhiolaa
set_option linter.unusedVariables false
set_option linter.unusedSimpArgs false
namespace Go.Proofs.Ytcmhginhfhiolaa
open Go.RowKit Go.Shelf
attribute [local go_sem] cell_alloc_old

theorem rd_block {w : World} {D : Dom} {b n size : Nat} {cs : Array Value} {t : TypeId} {fr : Nat × Nat} (h : w.heap[b]? = some (.cells cs t fr)) (hD : D b) (hs : cs.size = n * size) (hn : n ≤ 140737488355328) : Rd w D size (some ⟨b, 0, none⟩) n n cs.toList :=
  ⟨⟨by simpa using hs, hn, Nat.le_refl _, by omega⟩, fun _ => ⟨b, 0, rfl, hD, lt_of_block h, fun j u hu => by rw [Nat.zero_add]; exact block_cell h (by simpa using hu)⟩⟩
theorem ints_block {w : World} {D : Dom} {b : Nat} {zs : List Int} {cs : Array Value} {t : TypeId} {fr : Nat × Nat} (h : w.heap[b]? = some (.cells cs t fr)) (hD : D b) (hc : cs.toList = zs.map (.int .i64)) (hn : zs.length ≤ 140737488355328) : RdI w D (some ⟨b, 0, none⟩) zs.length zs := by
  have hs : cs.size = zs.length * 1 := by rw [← Array.length_toList, hc]; simp
  have := rd_block h hD hs hn
  rw [hc] at this
  exact this
theorem bools_block {w : World} {D : Dom} {b : Nat} {zs : List Bool} {cs : Array Value} {t : TypeId} {fr : Nat × Nat} (h : w.heap[b]? = some (.cells cs t fr)) (hD : D b) (hc : cs.toList = zs.map Value.bool) (hn : zs.length ≤ 140737488355328) : RdB w D (some ⟨b, 0, none⟩) zs.length zs := by
  have hs : cs.size = zs.length * 1 := by rw [← Array.length_toList, hc]; simp
  have := rd_block h hD hs hn
  rw [hc] at this
  exact this
/-- Block b holds the controller m. -/
structure HasM (w : World) (b : Nat) (cs : Array Value) (m : Mly) : Prop where
  blk : w.heap[b]? = some (.cells cs 24 (0, 0))
  rd : RdM w (· < w.heap.size) (.agg cs) m
theorem HasM.below {w w' : World} {b : Nat} {cs : Array Value} {m : Mly} (h : HasM w b cs m) (hb : Below w.heap.size w w') : HasM w' b cs m :=
  ⟨(hb.block _ (lt_of_block h.blk)).trans h.blk, (h.rd.keep (Keeps.of_below hb (fun _ h => h))).mono (fun _ hb2 _ => Nat.lt_of_lt_of_le hb2 hb.size)⟩
theorem HasM.cells {w : World} {b : Nat} {x0 x1 x2 x3 x4 : Value} {m : Mly} (h : HasM w b #[x0, x1, x2, x3, x4] m) : w.cell? ⟨b, 0, none⟩ = some x0 ∧ w.cell? ⟨b, 1, none⟩ = some x1 ∧ w.cell? ⟨b, 2, none⟩ = some x2 ∧ w.cell? ⟨b, 3, none⟩ = some x3 ∧ w.cell? ⟨b, 4, none⟩ = some x4 ∧ b < w.heap.size :=
  ⟨block_cell h.blk rfl, block_cell h.blk rfl, block_cell h.blk rfl, block_cell h.blk rfl, block_cell h.blk rfl, lt_of_block h.blk⟩
theorem HasM.new {w : World} {D : Dom} {cs : Array Value} {m : Mly} (h : RdM w D (.agg cs) m) : HasM (w.alloc (.cells cs 24)) w.heap.size cs m :=
  ⟨heap_alloc_new w _, (h.old.keep ((Keeps.refl _ w).alloc _)).mono (fun b hb _ => by have : b < w.heap.size := hb; simp; omega)⟩
theorem calls_gen {P : Program} {f : FuncId} {args : Array Value} {Q : Ending → World → Prop} {w : World} (h : ∀ W, W = w → Calls P f args W Q) : Calls P f args w Q := h w rfl

theorem bf3 (i0 i1 i2 : Int) (A B : Option Addr) (n c k d : Nat) (w : World) : (Instr.field 24 (.agg #[.int .i64 i0, .int .i64 i1, .int .i64 i2, .slice A n c, .slice B k d]) 3).run Try.prog w = .ok (.slice A n c) w := by kernel_rfl
/-- A slice of bytes. -/
def RdY (w : World) (D : Dom) (A : Option Addr) (c : Nat) (zs : List Int) : Prop := Rd w D 1 A zs.length c (zs.map (.int .u8)) ∧ ∀ i, i < zs.length → 0 ≤ zs.getD i 0 ∧ zs.getD i 0 ≤ 255
section
variable {D E : Dom} {w w' : World} {A : Option Addr} {c : Nat} {zs : List Int}
theorem RdY.len (h : RdY w D A c zs) : zs.length ≤ 140737488355328 ∧ zs.length ≤ c ∧ c ≤ 9223372036854775807 := h.1.1.2
theorem RdY.keep (h : RdY w D A c zs) (hk : Keeps D w w') : RdY w' D A c zs := ⟨Rd.keep h.1 hk, h.2⟩
theorem RdY.mono (h : RdY w D A c zs) (hE : ∀ b, D b → b < w.heap.size → E b) : RdY w E A c zs := ⟨Rd.mono h.1 hE, h.2⟩
theorem RdY.old (h : RdY w D A c zs) : RdY w (· < w.heap.size) A c zs := h.mono fun _ _ hl => hl
theorem RdY.get {k : Nat} (h : RdY w D A c zs) (hk : k < zs.length) : ∃ b o x, A = some ⟨b, o, none⟩ ∧ D b ∧ b < w.heap.size ∧ Hid (zs.getD k 0 = x) ∧ 0 ≤ x ∧ x ≤ 255 ∧ w.cell? ⟨b, o + k, none⟩ = some (.int .u8 x) := by
  obtain ⟨b, o, e, hb, hl, hc⟩ := h.1.2 (by omega)
  have := h.2 k hk
  exact ⟨b, o, _, e, hb, hl, hid rfl, this.1, this.2, hc k _ (by simp [List.getD, hk])⟩
end
end Go.Proofs.Ytcmhginhfhiolaa
