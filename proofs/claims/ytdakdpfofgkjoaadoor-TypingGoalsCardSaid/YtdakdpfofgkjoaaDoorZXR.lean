/-
  What TypingGoals lays while it turns the requirements round.
-/
import Derived.Test.YtdakdpfofgkjoaaDoorZXL
set_option linter.unusedVariables false
set_option linter.unusedSimpArgs false
namespace Go.Proofs.YtdakdpfofgkjoaaDoor
open Go.RowKit Go.Shelf

/-- The spec at pb, its own row of requirements, and the own row of formulas. -/
structure BackI (w : World) (base pb : Nat) (AS : Option Addr) (nS cS : Nat) (B : Option Addr) (d : Nat) (qs : List Rq) (sm : List (Option Addr × Nat)) (A : Option Addr) (c : Nat) (gs : List Fm) (sl : List (Option Addr × Nat)) : Prop where
  lt : pb < base
  sp : SpecAt w pb AS nS cS B qs.length d
  q : w.ownsRow base 43 8 (.slice B qs.length d) qs.length (cellsQ qs sm)
  lq : sm.length = qs.length
  aq : ∀ i, i < qs.length → RdA w (· < pb) (qs.getD i default).f.args (sm.getD i (none, 0)).1 (sm.getD i (none, 0)).2
  f : w.ownsRow base 25 5 (.slice A gs.length c) gs.length (cellsF gs sl)
  lf : sl.length = gs.length
  af : ∀ i, i < gs.length → RdA w (fun k => pb < k ∧ (Value.slice A gs.length c).ownBlock ≠ some k ∧ (Value.slice B qs.length d).ownBlock ≠ some k) (gs.getD i default).args (sl.getD i (none, 0)).1 (sl.getD i (none, 0)).2
  ne : ∀ k, (Value.slice A gs.length c).ownBlock = some k → (Value.slice B qs.length d).ownBlock = some k → False
section
variable {w w' : World} {base pb : Nat} {AS : Option Addr} {nS cS : Nat} {B : Option Addr} {d : Nat} {qs : List Rq} {sm : List (Option Addr × Nat)} {A : Option Addr} {c : Nat} {gs : List Fm} {sl : List (Option Addr × Nat)}
theorem BackI.nil {g : Nat} (hlt : pb < base) (hb : base ≤ g) (hs : SpecAt w pb AS nS cS none 0 0) (hg : w.heap[g]? = some (.cells #[] 25 (0, 0))) : BackI w base pb AS nS cS none 0 [] [] (some ⟨g, 0, none⟩) 0 [] [] :=
  ⟨hlt, hs, ⟨rfl, .inl ⟨rfl, rfl⟩⟩, rfl, (fun i h => absurd h (Nat.not_lt_zero _)), own_empty hb hg, rfl, (fun i h => absurd h (Nat.not_lt_zero _)), fun k _ h => by cases h⟩
theorem BackI.below (h : BackI w base pb AS nS cS B d qs sm A c gs sl) (hb : Below w.heap.size w w') : BackI w' base pb AS nS cS B d qs sm A c gs sl :=
  ⟨h.lt, h.sp.below hb, own_below h.q hb, h.lq, (fun i hi => (h.aq i hi).belowD hb), own_below h.f hb, h.lf, (fun i hi => (h.af i hi).belowD hb), h.ne⟩
/-- The requirements of the spec. -/
theorem BackI.rd (h : BackI w base pb AS nS cS B d qs sm A c gs sl) (hn : qs.length ≤ 140737488355328) : RdR w AnyD B d qs :=
  ⟨sm, h.lq, Rd.own h.q hn fun _ _ => trivial, fun i hi => (h.aq i hi).mono fun _ _ _ => trivial⟩
theorem BackI.rdf (h : BackI w base pb AS nS cS B d qs sm A c gs sl) (hn : gs.length ≤ 140737488355328) : RdA w AnyD gs A c :=
  .mk _ _ _ sl h.lf (Rd.own h.f hn fun _ _ => trivial) fun i hi => (h.af i hi).mono fun _ _ _ => trivial
theorem own_chg1 {w w' : World} {base n size b : Nat} {e : TypeId} {v : Value} {xs : List Value} (h : w.ownsRow base e size v n xs) (hc : Chg (fun x => x = b) w w') (hb : b < base) : w'.ownsRow base e size v n xs :=
  own_grown (u := .slice (some ⟨b, 0, none⟩) 0 0) h ⟨hc.os, hc.tape, hc.output, hc.size, fun k hk hne => hc.block k hk fun e => hne (by rw [e]; rfl)⟩ fun k h1 h2 => by
    have := (own_ge h h2).1
    have h1' : some b = some k := h1
    injection h1' with h1'
    omega
/-- A requirement is appended, and the slice laid into the spec. -/
theorem BackI.push {w1 w2 : World} {B' : Option Addr} {d' n : Nat} {r : Rq} {s : Option Addr × Nat} (h : BackI w base pb AS nS cS B d qs sm A c gs sl) (hg : w.grownBy w1 (Value.slice B qs.length d).ownBlock) (hn : n = (qs ++ [r]).length)
    (hown : w1.ownsRow base 43 8 (.slice B' n d') n (cellsQ qs sm ++ qcells r s)) (hat : (Value.slice B' n d').ownBlock = (Value.slice B qs.length d).ownBlock ∨ (Value.slice B' n d').ownBlock = some w.heap.size)
    (hc : Chg (fun x => x = pb) w1 w2) (hs : SpecAt w2 pb AS nS cS B' n d') (hr : RdA w (· < pb) r.f.args s.1 s.2) : BackI w2 base pb AS nS cS B' d' (qs ++ [r]) (sm ++ [s]) A c gs sl := by
  subst hn
  have hpb := h.lt
  have key : ∀ {l : List Fm} {C : Option Addr} {e : Nat}, RdA w (· < pb) l C e → RdA w2 (· < pb) l C e := fun h1 =>
    (h1.keep ⟨hg.size, fun k hk hl => hg.block k hl fun e => by have := own_ge h.q e.symm; omega⟩).keep (hc.keeps fun k _ hk hv => by have hk' : k < pb := hk; have hv' : k = pb := hv; omega)
  have e1 : cellsQ [r] [s] = qcells r s := by show qcells r s ++ [] = _; rw [List.append_nil]
  refine ⟨h.lt, hs, by rw [cellsQ_append h.lq, e1]; exact own_chg1 hown hc hpb, by rw [List.length_append, List.length_append, h.lq]; rfl, fun i hi => ?_, own_chg1 (own_grown h.f hg fun k h1 h2 => h.ne k h2 h1) hc hpb, h.lf, fun i hi => ?_, fun k h1 h2 => ?_⟩
  · by_cases hl : i < qs.length
    · have e1 : (qs ++ [r]).getD i default = qs.getD i default := by simp [List.getD, List.getElem?_append_left hl]
      have e2 : (sm ++ [s]).getD i (none, 0) = sm.getD i (none, 0) := by simp [List.getD, List.getElem?_append_left (show i < sm.length by rw [h.lq]; exact hl)]
      rw [e1, e2]
      exact key (h.aq i hl)
    · have hi' : i = qs.length := by rw [List.length_append] at hi; simp at hi; omega
      subst hi'
      have e1 : (qs ++ [r]).getD qs.length default = r := by simp [List.getD]
      have e2 : (sm ++ [s]).getD qs.length (none, 0) = s := by rw [← h.lq]; simp [List.getD]
      rw [e1, e2]
      exact key hr
  · have h1 := (h.af i hi).mono (E := fun k => (pb < k ∧ (Value.slice A gs.length c).ownBlock ≠ some k ∧ (Value.slice B qs.length d).ownBlock ≠ some k) ∧ k < w.heap.size) fun k hk hl => ⟨hk, hl⟩
    refine ((h1.keep (w' := w1) ⟨hg.size, fun k hk hl => hg.block k hl fun e => hk.1.2.2 e.symm⟩).keep (hc.keeps fun k _ hk hv => by have hk' := hk.1.1; have hv' : k = pb := hv; omega)).mono fun k hk _ => ⟨hk.1.1, hk.1.2.1, fun e => ?_⟩
    rcases hat with h2 | h2
    · rw [h2] at e; exact hk.1.2.2 e
    · rw [h2] at e
      injection e with e
      have := hk.2
      omega
  · rcases hat with h3 | h3
    · rw [h3] at h2; exact h.ne k h1 h2
    · rw [h3] at h2
      injection h2 with h2
      have := own_ge h.f h1
      omega
/-- A formula is appended. -/
theorem BackI.more {A' : Option Addr} {c' n : Nat} {f : Fm} {s : Option Addr × Nat} (h : BackI w base pb AS nS cS B d qs sm A c gs sl) (hg : w.grownBy w' (Value.slice A gs.length c).ownBlock) (hn : n = (gs ++ [f]).length)
    (hown : w'.ownsRow base 25 5 (.slice A' n c') n (cellsF gs sl ++ fcells f s)) (hat : (Value.slice A' n c').ownBlock = (Value.slice A gs.length c).ownBlock ∨ (Value.slice A' n c').ownBlock = some w.heap.size)
    (hr : RdA w (fun k => pb < k ∧ (Value.slice A gs.length c).ownBlock ≠ some k ∧ (Value.slice B qs.length d).ownBlock ≠ some k) f.args s.1 s.2) : BackI w' base pb AS nS cS B d qs sm A' c' (gs ++ [f]) (sl ++ [s]) := by
  subst hn
  have hpb := h.lt
  have key : ∀ {l : List Fm} {C : Option Addr} {e : Nat}, RdA w (fun k => pb < k ∧ (Value.slice A gs.length c).ownBlock ≠ some k ∧ (Value.slice B qs.length d).ownBlock ≠ some k) l C e → RdA w' (fun k => pb < k ∧ (Value.slice A' (gs ++ [f]).length c').ownBlock ≠ some k ∧ (Value.slice B qs.length d).ownBlock ≠ some k) l C e := fun h1 =>
    ((h1.mono (E := fun k => (pb < k ∧ (Value.slice A gs.length c).ownBlock ≠ some k ∧ (Value.slice B qs.length d).ownBlock ≠ some k) ∧ k < w.heap.size) fun k hk hl => ⟨hk, hl⟩).keep (w' := w') ⟨hg.size, fun k hk hl => hg.block k hl (fun e => hk.1.2.1 e.symm)⟩).mono fun k hk _ => ⟨hk.1.1, fun e => by
      rcases hat with h2 | h2
      · rw [h2] at e; exact hk.1.2.1 e
      · rw [h2] at e
        injection e with e
        have := hk.2
        omega, hk.1.2.2⟩
  have e1 : cellsF [f] [s] = fcells f s := by show fcells f s ++ [] = _; rw [List.append_nil]
  have hsp : SpecAt w' pb AS nS cS B qs.length d := (hg.block pb (lt_of_block h.sp) fun e => by have := own_ge h.f e.symm; omega).trans h.sp
  refine ⟨h.lt, hsp, own_grown h.q hg (fun k h1 h2 => h.ne k h1 h2), h.lq, (fun i hi => (h.aq i hi).keep ⟨hg.size, fun k hk hl => hg.block k hl fun e => by have := own_ge h.f e.symm; have hk' : k < pb := hk; omega⟩), by rw [cellsF_append h.lf, e1]; exact hown, by rw [List.length_append, List.length_append, h.lf]; rfl, fun i hi => ?_, fun k h1 h2 => ?_⟩
  · by_cases hl : i < gs.length
    · have e1 : (gs ++ [f]).getD i default = gs.getD i default := by simp [List.getD, List.getElem?_append_left hl]
      have e2 : (sl ++ [s]).getD i (none, 0) = sl.getD i (none, 0) := by simp [List.getD, List.getElem?_append_left (show i < sl.length by rw [h.lf]; exact hl)]
      rw [e1, e2]
      exact key (h.af i hl)
    · have hi' : i = gs.length := by rw [List.length_append] at hi; simp at hi; omega
      subst hi'
      have e1 : (gs ++ [f]).getD gs.length default = f := by simp [List.getD]
      have e2 : (sl ++ [s]).getD gs.length (none, 0) = s := by rw [← h.lf]; simp [List.getD]
      rw [e1, e2]
      exact key hr
  · rcases hat with h3 | h3
    · rw [h3] at h1; exact h.ne k h1 h2
    · rw [h3] at h1
      injection h1 with h1
      have := own_ge h.q h2
      omega
end
end Go.Proofs.YtdakdpfofgkjoaaDoor
