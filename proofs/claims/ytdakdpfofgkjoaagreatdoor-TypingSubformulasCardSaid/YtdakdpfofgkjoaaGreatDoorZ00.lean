/-
  Words for memory that all texts of this seat use: a slice that reads as a list, kept over what a call leaves alone.
  A region that draws its order and whose last operation waits for all others: the last one is done last.
  append onto a slice of the call's own, the source read by 'Rd'; the law as an operation of a plain region and of one that draws its order.
  Maps that the call itself keeps: a block of entries as a list of keys and values, for keys of any kind whose equality is known.
  Maps that the call itself keeps: an entry set again; the walk over all entries, in any order.
  Formulas as plain data, and as values in memory.
-/
import Derived.Test.YtdakdpfofgkjoaaGreatDoorChecked
import Derived.WalkKit
import Derived.WalkLawsBesides
import Derived.WalkSpells
import Derived.Lib.Hide
import Derived.Deep.QuietTactic
import Derived.BigQuiet
import Derived.Handy
import Derived.Deep.RegionHeld3
import Derived.Deep.RegionLaw
import Derived.Maps.AppendAt
import Derived.Deep.DeepFit
import Derived.Deep.DeepCutAuto
import Derived.OrdersHeld
import Derived.Laws.AppendOwnNone
import Derived.Laws.StructEq
import Derived.Maps.RangeRun
set_option linter.unusedVariables false
set_option linter.unusedSimpArgs false
namespace Go.Proofs.YtdakdpfofgkjoaaGreatDoor
open Go.RowKit

abbrev Dom := Nat → Prop

/-- What lies in the blocks of D is in w' as it was in w. -/
structure Keeps (D : Dom) (w w' : World) : Prop where
  size : w.heap.size ≤ w'.heap.size
  block : ∀ b, D b → b < w.heap.size → w'.heap[b]? = w.heap[b]?

section
variable {D E : Dom} {w w' w'' : World}
theorem Keeps.refl (D : Dom) (w : World) : Keeps D w w := ⟨Nat.le_refl _, fun _ _ _ => rfl⟩
theorem Keeps.trans (h : Keeps D w w') (k : Keeps D w' w'') : Keeps D w w'' :=
  ⟨Nat.le_trans h.size k.size, fun b hb hl => (k.block b hb (Nat.lt_of_lt_of_le hl h.size)).trans (h.block b hb hl)⟩
theorem Keeps.alloc (h : Keeps D w w') (o : Obj) : Keeps D w (w'.alloc o) :=
  h.trans ⟨by simp, fun b _ hl => Below.heap_alloc _ _ _ hl⟩
theorem Keeps.drew (h : Keeps D w w') : Keeps D w w'.drew := ⟨h.size, h.block⟩
theorem Keeps.drewN (h : Keeps D w w') (n : Nat) : Keeps D w (w'.drewN n) := ⟨h.size, h.block⟩
theorem Keeps.set (h : Keeps D w w') {p : Addr} (hp : ¬ D p.block) (u : Value) : Keeps D w (w'.setCell p u) :=
  h.trans ⟨by simp, fun b hb _ => Below.heap_setCell _ _ _ _ (fun e => hp (e ▸ hb))⟩
theorem Keeps.below (h : Keeps D w w') (hb : Below w'.heap.size w' w'') : Keeps D w w'' :=
  h.trans ⟨hb.size, fun b _ hl => hb.block b hl⟩
theorem Keeps.belowLe {B : Nat} (h : Keeps D w w') (hb : Below B w' w'') (hB : w'.heap.size ≤ B) : Keeps D w w'' := h.below (hb.mono hB)
theorem Keeps.grown (h : Keeps D w w') {row : Option Nat} (hg : w'.grownBy w'' row) (hr : ∀ k, row = some k → ¬ D k) : Keeps D w w'' :=
  h.trans ⟨hg.size, fun b hb hl => hg.block b hl (fun e => hr b e.symm hb)⟩
theorem Keeps.mono (h : Keeps D w w') (hE : ∀ b, E b → D b) : Keeps E w w' := ⟨h.size, fun b hb hl => h.block b (hE b hb) hl⟩
theorem Keeps.of_below {B : Nat} (hb : Below B w w') (hD : ∀ b, D b → b < B) : Keeps D w w' := ⟨hb.size, fun b h _ => hb.block b (hD b h)⟩
theorem Keeps.cell (h : Keeps D w w') {b o : Nat} {u : Value} (hb : D b) (hc : w.cell? ⟨b, o, none⟩ = some u) : w'.cell? ⟨b, o, none⟩ = some u := by
  have hl : b < w.heap.size := World.block_lt_of_cell? w ⟨b, o, none⟩ hc
  rw [← hc]
  exact World.cell?_of_block (w := w) (a := ⟨b, o, none⟩) (h.block b hb hl)
end

/-- w' is w but for draws from the tape. -/
def Drawn (w w' : World) : Prop := ∃ n, w' = w.drewN n
theorem Drawn.refl (w : World) : Drawn w w := ⟨0, rfl⟩
theorem Drawn.n (w : World) (n : Nat) : Drawn w (w.drewN n) := ⟨n, rfl⟩
theorem Drawn.drewN {w w' : World} (h : Drawn w w') (n : Nat) : Drawn w (w'.drewN n) := by
  obtain ⟨m, rfl⟩ := h
  exact ⟨m + n, World.drewN_drewN w m n⟩
theorem Drawn.drew {w w' : World} (h : Drawn w w') : Drawn w w'.drew := h.drewN 1
theorem Drawn.trans {w w' w'' : World} (h : Drawn w w') (k : Drawn w' w'') : Drawn w w'' := by
  obtain ⟨m, rfl⟩ := k
  exact h.drewN m
theorem Drawn.keeps {D : Dom} {w w' : World} (h : Drawn w w') : Keeps D w w' := by
  obtain ⟨m, rfl⟩ := h
  exact (Keeps.refl D w).drewN m
theorem Drawn.below {w w' : World} (h : Drawn w w') (B : Nat) : Below B w w' := by
  obtain ⟨m, rfl⟩ := h
  exact ⟨rfl, rfl, rfl, Nat.le_refl _, fun _ _ => rfl⟩

/-- The slice value '.slice A n c' holds the cells xs, size cells each. -/
def Rd (w : World) (D : Dom) (size : Nat) (A : Option Addr) (n c : Nat) (xs : List Value) : Prop :=
  (xs.length = n * size ∧ n ≤ 140737488355328 ∧ n ≤ c ∧ c ≤ 9223372036854775807) ∧
  (0 < n → ∃ b o, A = some ⟨b, o, none⟩ ∧ D b ∧ b < w.heap.size ∧ ∀ j u, xs[j]? = some u → w.cell? ⟨b, o + j, none⟩ = some u)

section
variable {D E : Dom} {w w' : World} {size n c : Nat} {A : Option Addr} {xs : List Value}
theorem Rd.nil (w : World) (D : Dom) (size : Nat) (A : Option Addr) {c : Nat} (hc : c ≤ 9223372036854775807) : Rd w D size A 0 c [] := ⟨⟨by simp, by omega, by omega, hc⟩, fun h => absurd h (by omega)⟩
theorem Rd.keep (h : Rd w D size A n c xs) (hk : Keeps D w w') : Rd w' D size A n c xs :=
  ⟨h.1, fun hn => by
    obtain ⟨b, o, e, hb, hl, hc⟩ := h.2 hn
    exact ⟨b, o, e, hb, Nat.lt_of_lt_of_le hl hk.size, fun j u hu => hk.cell hb (hc j u hu)⟩⟩
theorem Rd.mono (h : Rd w D size A n c xs) (hE : ∀ b, D b → b < w.heap.size → E b) : Rd w E size A n c xs :=
  ⟨h.1, fun hn => by
    obtain ⟨b, o, e, hb, hl, hc⟩ := h.2 hn
    exact ⟨b, o, e, hE b hb hl, hl, hc⟩⟩
theorem Rd.old (h : Rd w D size A n c xs) : Rd w (· < w.heap.size) size A n c xs := h.mono fun _ _ hl => hl
/-- 's[k:]'. -/
theorem Rd.cut {k : Nat} (h : Rd w D size A n c xs) (hk : k ≤ n) :
    Rd w D size (if c = k then A else A.map (·.add (k * size))) (n - k) (c - k) (xs.drop (k * size)) := by
  obtain ⟨⟨h1, h2, h3, h4⟩, h5⟩ := h
  refine ⟨⟨by rw [List.length_drop, h1, Nat.sub_mul], by omega, by omega, by omega⟩, fun hn => ?_⟩
  obtain ⟨b, o, rfl, hb, hl, hcell⟩ := h5 (by omega)
  rw [if_neg (by omega)]
  refine ⟨b, o + k * size, ?_, hb, hl, fun j u hu => ?_⟩
  · unfold Addr.add
    by_cases h0 : k * size = 0 <;> simp [h0]
  · rw [Nat.add_assoc]
    exact hcell _ u (by rw [← hu, List.getElem?_drop])
/-- 's[:k]'. -/
theorem Rd.take {k : Nat} (h : Rd w D size A n c xs) (hk : k ≤ n) : Rd w D size A k c (xs.take (k * size)) := by
  obtain ⟨⟨h1, h2, h3, h4⟩, h5⟩ := h
  refine ⟨⟨by rw [List.length_take, h1]; exact Nat.min_eq_left (Nat.mul_le_mul_right _ hk), by omega, by omega, by omega⟩, fun hn => ?_⟩
  obtain ⟨b, o, rfl, hb, hl, hcell⟩ := h5 (by omega)
  exact ⟨b, o, rfl, hb, hl, fun j u hu => hcell j u (by
    rw [List.getElem?_take] at hu
    split at hu
    · exact hu
    · cases hu)⟩
theorem Rd.own {base : Nat} {e : TypeId} (h : w.ownsRow base e size (.slice A n c) n xs) (hn : n ≤ 140737488355328) (hD : ∀ g, base ≤ g → D g) : Rd w D size A n c xs := by
  rcases h.2 with ⟨hv, h0⟩ | ⟨g, cap, cur, hv, hb, hh, h1, h2, hsz, htk⟩
  · injection hv with _ _ hc
    subst h0
    subst hc
    obtain rfl : xs = [] := List.eq_nil_of_length_eq_zero (by simpa using h.1)
    exact Rd.nil w D size A (by omega)
  · have hA : A = some ⟨g, 0, none⟩ := by injection hv
    have hc : c = cap := by injection hv
    subst hA hc
    refine ⟨⟨h.1, hn, h1, h2⟩, fun hn => ⟨g, 0, rfl, hD g hb, lt_of_block hh, fun j u hu => ?_⟩⟩
    rw [← htk, List.getElem?_take] at hu
    split at hu
    · simp [World.cell?, hh]; simpa using hu
    · cases hu
end

theorem hid {p : Prop} (h : p) : Hid p := h
theorem ret_sl {A : Option Addr} {n m c : Nat} (h : n = m) : Ending.returned (.slice A n c) = .returned (.slice A m c) := by rw [h]
/-- A slice of ints. -/
def RdI (w : World) (D : Dom) (A : Option Addr) (c : Nat) (zs : List Int) : Prop := Rd w D 1 A zs.length c (zs.map (.int .i64))

section
variable {D E : Dom} {w w' : World} {A : Option Addr} {c : Nat} {zs : List Int}
theorem RdI.nil (w : World) (D : Dom) (A : Option Addr) {c : Nat} (hc : c ≤ 9223372036854775807) : RdI w D A c [] := Rd.nil w D 1 A hc
theorem RdI.len (h : RdI w D A c zs) : zs.length ≤ 140737488355328 ∧ zs.length ≤ c ∧ c ≤ 9223372036854775807 := h.1.2
theorem RdI.keep (h : RdI w D A c zs) (hk : Keeps D w w') : RdI w' D A c zs := Rd.keep h hk
theorem RdI.mono (h : RdI w D A c zs) (hE : ∀ b, D b → b < w.heap.size → E b) : RdI w E A c zs := Rd.mono h hE
theorem RdI.old (h : RdI w D A c zs) : RdI w (· < w.heap.size) A c zs := Rd.old h
theorem RdI.get {k : Nat} (h : RdI w D A c zs) (hk : k < zs.length) : ∃ b o x, A = some ⟨b, o, none⟩ ∧ D b ∧ b < w.heap.size ∧ Hid (zs.getD k 0 = x) ∧ w.cell? ⟨b, o + k, none⟩ = some (.int .i64 x) := by
  obtain ⟨b, o, e, hb, hl, hc⟩ := h.2 (by omega)
  exact ⟨b, o, _, e, hb, hl, hid rfl, hc k _ (by simp [hk])⟩
theorem RdI.ptr (h : RdI w D A c zs) (hk : 0 < zs.length) : ∃ b o, A = some ⟨b, o, none⟩ ∧ D b ∧ b < w.heap.size ∧ ∀ k, k < zs.length → w.cell? ⟨b, o + k, none⟩ = some (.int .i64 (zs.getD k 0)) := by
  obtain ⟨b, o, e, hb, hl, hc⟩ := h.2 (by omega)
  exact ⟨b, o, e, hb, hl, fun k hk => hc k _ (by simp [hk])⟩
theorem RdI.cut {k : Nat} (h : RdI w D A c zs) (hk : k ≤ zs.length) : RdI w D (if c = k then A else A.map (·.add k)) (c - k) (zs.drop k) := by
  have := Rd.cut (k := k) h hk
  unfold RdI
  simpa using this
theorem RdI.take {k : Nat} (h : RdI w D A c zs) (hk : k ≤ zs.length) : RdI w D A c (zs.take k) := by
  have := Rd.take (k := k) h hk
  unfold RdI
  simpa [Nat.min_eq_left hk] using this
theorem RdI.one {b o : Nat} {z : Int} (hb : D b) (hc : w.cell? ⟨b, o, none⟩ = some (.int .i64 z)) : RdI w D (some ⟨b, o, none⟩) 1 [z] := by
  refine ⟨⟨by simp, by simp, by simp, by omega⟩, fun _ => ⟨b, o, rfl, hb, World.block_lt_of_cell? w ⟨b, o, none⟩ hc, fun j u hu => ?_⟩⟩
  cases j with
  | zero => simp at hu; subst hu; exact hc
  | succ j => simp at hu
end

/-- A slice of slices of ints. -/
def RdII (w : World) (D : Dom) (A : Option Addr) (c : Nat) (rows : List (List Int)) : Prop :=
  ∃ vs : List Value, Rd w D 1 A rows.length c vs ∧ ∀ i, i < rows.length → ∃ A' c', vs[i]? = some (.slice A' (rows.getD i []).length c') ∧ RdI w D A' c' (rows.getD i [])

section
variable {D E : Dom} {w w' : World} {A : Option Addr} {c : Nat} {rows : List (List Int)}
theorem RdII.nil (w : World) (D : Dom) (A : Option Addr) {c : Nat} (hc : c ≤ 9223372036854775807) : RdII w D A c [] := ⟨[], Rd.nil w D 1 A hc, fun _ h => absurd h (Nat.not_lt_zero _)⟩
theorem RdII.len (h : RdII w D A c rows) : rows.length ≤ 140737488355328 ∧ rows.length ≤ c ∧ c ≤ 9223372036854775807 := let ⟨_, h1, _⟩ := h; h1.1.2
theorem RdII.keep (h : RdII w D A c rows) (hk : Keeps D w w') : RdII w' D A c rows :=
  let ⟨vs, h1, h2⟩ := h
  ⟨vs, h1.keep hk, fun i hi => let ⟨A', c', h3, h4⟩ := h2 i hi; ⟨A', c', h3, h4.keep hk⟩⟩
theorem RdII.mono (h : RdII w D A c rows) (hE : ∀ b, D b → b < w.heap.size → E b) : RdII w E A c rows :=
  let ⟨vs, h1, h2⟩ := h
  ⟨vs, h1.mono hE, fun i hi => let ⟨A', c', h3, h4⟩ := h2 i hi; ⟨A', c', h3, h4.mono hE⟩⟩
theorem RdII.old (h : RdII w D A c rows) : RdII w (· < w.heap.size) A c rows := h.mono fun _ _ hl => hl
theorem RdII.get {k : Nat} (h : RdII w D A c rows) (hk : k < rows.length) : ∃ b o A' c' r, A = some ⟨b, o, none⟩ ∧ D b ∧ b < w.heap.size ∧ Hid (rows.getD k [] = r) ∧ RdI w D A' c' r ∧
    w.cell? ⟨b, o + k, none⟩ = some (.slice A' r.length c') := by
  obtain ⟨vs, h1, h2⟩ := h
  obtain ⟨b, o, e, hb, hl, hc⟩ := h1.2 (by omega)
  obtain ⟨A', c', h3, h4⟩ := h2 k hk
  exact ⟨b, o, A', c', _, e, hb, hl, hid rfl, h4, hc k _ h3⟩
end

theorem cell_alloc_old (w : World) (o : Obj) (p : Addr) (h : p.block < w.heap.size) : (w.alloc o).cell? p = w.cell? p := World.cell?_alloc_lt w o p h
theorem cell_new (w : World) (cs : Array Value) (t : TypeId) (n i : Nat) (u : Value) (h : n = w.heap.size) (hu : cs[i]? = some u) : (w.alloc (.cells cs t)).cell? ⟨n, i, none⟩ = some u := by
  subst h
  rw [World.cell?_alloc_new]; exact hu
/-- Block b holds the cells cs (a struct, a variable that has an address). -/
def Box (w : World) (b : Nat) (cs : Array Value) : Prop := ∀ j u, cs[j]? = some u → w.cell? ⟨b, j, none⟩ = some u
theorem Box.new (w : World) (cs : Array Value) (t : TypeId) {n : Nat} (h : n = w.heap.size) : Box (w.alloc (.cells cs t)) n cs := fun _ u hu => cell_new w cs t _ _ u h hu
theorem Box.below {B : Nat} {w w' : World} {b : Nat} {cs : Array Value} (h : Box w b cs) (hb : Below B w w') (hB : w.heap.size ≤ B) : Box w' b cs := fun j u hu => by
  have := h j u hu
  rw [← this]
  exact hb.cell (p := ⟨b, j, none⟩) (Nat.lt_of_lt_of_le (World.block_lt_of_cell? w ⟨b, j, none⟩ this) hB)
theorem Box.alloc {w : World} {b : Nat} {cs : Array Value} (h : Box w b cs) (o : Obj) : Box (w.alloc o) b cs := h.below ((Below.refl _ _).alloc (Nat.le_refl _) o) (Nat.le_refl _)
theorem Box.grown {w w' : World} {b : Nat} {cs : Array Value} {row : Option Nat} (h : Box w b cs) (hg : w.grownBy w' row) (hne : some b ≠ row) : Box w' b cs := fun j u hu => hg.cell (a := ⟨b, j, none⟩) (h j u hu) hne
theorem Box.set {w : World} {b : Nat} {cs : Array Value} (h : Box w b cs) {p : Addr} (hp : b ≠ p.block) (u : Value) : Box (w.setCell p u) b cs := fun j u' hu => by
  rw [← h j u' hu]
  exact World.cell?_of_block (w := w) (a := ⟨b, j, none⟩) (Below.heap_setCell w p u b hp)
theorem Box.drewN {w : World} {b : Nat} {cs : Array Value} (h : Box w b cs) (n : Nat) : Box (w.drewN n) b cs := h
theorem Box.drew {w : World} {b : Nat} {cs : Array Value} (h : Box w b cs) : Box w.drew b cs := h
theorem ret_bool {a b : Bool} (h : a = b) : Ending.returned (.bool a) = .returned (.bool b) := by rw [h]
theorem ret_int {a b : Int} (h : a = b) : Ending.returned (.int .i64 a) = .returned (.int .i64 b) := by rw [h]
theorem getD_take {α : Type} (l : List α) (d : α) {k j : Nat} (h : j < k) : (l.take k).getD j d = l.getD j d := by
  simp [List.getD, List.getElem?_take, h]
theorem take_succ_getD {α : Type} (l : List α) (d : α) {k : Nat} (h : k < l.length) : l.take (k + 1) = l.take k ++ [l.getD k d] := by
  rw [List.take_succ_eq_append_getElem h]; simp [List.getD, h]
/-- All numbers below n have a property. -/
def allN (n : Nat) (p : Nat → Bool) : Bool := (List.range n).all p
theorem allN_true {n : Nat} {p : Nat → Bool} : allN n p = true ↔ ∀ j, j < n → p j = true := by simp [allN]
theorem allN_of {n : Nat} {p : Nat → Bool} (h : ∀ j, j < n → p j = true) : allN n p = true := allN_true.2 h
theorem allN_false {n j : Nat} {p : Nat → Bool} (h : j < n) (hp : p j = false) : allN n p = false := by
  cases h' : allN n p
  · rfl
  · rw [allN_true.1 h' j h] at hp; cases hp
/-- So far all have it. -/
def SoFar (k : Nat) (p : Nat → Bool) : Prop := ∀ j, j < k → p j = true
theorem SoFar.zero (p : Nat → Bool) : SoFar 0 p := fun _ h => absurd h (Nat.not_lt_zero _)
theorem SoFar.succ {k : Nat} {p : Nat → Bool} (h : SoFar k p) (hp : p k = true) : SoFar (k + 1) p := fun j hj => by
  rcases Nat.lt_succ_iff_lt_or_eq.1 hj with h' | rfl
  · exact h j h'
  · exact hp
theorem SoFar.all {n k : Nat} {p : Nat → Bool} (h : SoFar k p) (hk : n ≤ k) : allN n p = true := allN_of fun j hj => h j (Nat.lt_of_lt_of_le hj hk)
end Go.Proofs.YtdakdpfofgkjoaaGreatDoor
set_option linter.unusedVariables false
set_option linter.unusedSimpArgs false
namespace Go.Proofs.YtdakdpfofgkjoaaGreatDoor

/-- What is left to be shown behind all but the last operation. -/
def sinkQ (P : Program) (last : Oper) (Q : Exit → Act → World → Prop) : Exit → Act → World → Prop
  | .normal, a, w => Oper.wp P last a w (Q .normal) Q
  | e, a, w => Q e a w
/-- No operation is guarded, and each waits for earlier ones alone. -/
def backB (ops : Array Oper) : Bool := (List.range ops.size).all fun i => match ops[i]? with
  | some o => o.guard.isNone && o.after.all fun e => decide (e.on < i)
  | none => true
/-- It waits for all that stand before it. -/
def sinkB (md : Region.Mode) (n : Nat) (last : Oper) : Bool :=
  last.guard.isNone && (last.after.all fun e => decide (e.on < n)) && (List.range n).all fun i => last.after.any fun e => Region.binds md e && e.on == i
section
variable {P : Program} {ops : Array Oper} {last : Oper} {Q : Exit → Act → World → Prop} {md : Region.Mode}
theorem backB_spec (h : backB ops = true) {i : Nat} {o : Oper} (ho : ops[i]? = some o) : o.guard = none ∧ ∀ e ∈ o.after, e.on < i := by
  have hi : i < ops.size := (Array.getElem?_eq_some_iff.1 ho).1
  have h1 := List.all_eq_true.1 h i (List.mem_range.2 hi)
  simp only [ho, Bool.and_eq_true, Option.isNone_iff_eq_none, Array.all_eq_true'] at h1
  exact ⟨h1.1, fun e he => of_decide_eq_true (h1.2 e he)⟩
theorem sinkB_spec {n : Nat} (h : sinkB md n last = true) : last.guard = none ∧ (∀ e ∈ last.after, e.on < n) ∧ ∀ i, i < n → ∃ e ∈ last.after, Region.binds md e = true ∧ e.on = i := by
  unfold sinkB at h
  simp only [Bool.and_eq_true, Option.isNone_iff_eq_none, Array.all_eq_true'] at h
  refine ⟨h.1.1, fun e he => of_decide_eq_true (h.1.2 e he), fun i hi => ?_⟩
  have h1 := List.all_eq_true.1 h.2 i (List.mem_range.2 hi)
  obtain ⟨e, he, hb⟩ := Array.any_eq_true'.1 h1
  simp only [Bool.and_eq_true, beq_iff_eq] at hb
  exact ⟨e, he, hb.1, hb.2⟩
theorem wanted_free {o : Oper} (h : o.guard = none) (f : Nat → Option Bool) : Region.wanted o f = true := by simp [Region.wanted, h]
theorem getD_push {l : Array Bool} {j : Nat} (d : Bool) (h : j < l.size) : (l.push false).getD j d = l.getD j d := by
  simp [Array.getD, h, Nat.lt_succ_of_lt h, Array.getElem_push, show j ≤ l.size by omega]
theorem getD_push_f {l : Array Bool} (j : Nat) : (l.push false).getD j false = l.getD j false := by
  by_cases h : j < l.size
  · exact getD_push false h
  · rcases Nat.lt_or_ge j (l.size + 1) with h1 | h1
    · obtain rfl : j = l.size := by omega
      simp [Array.getD]
    · simp [Array.getD, h, show ¬ j < l.size + 1 by omega, show ¬ j ≤ l.size by omega]
/-- What may come up is the same, but for the last one. -/
theorem ready_push {listed : Array Bool} (hs : listed.size = ops.size) {i : Nat} (hi : i < ops.size) : i ∈ Region.ready md (ops.push last) (listed.push false) ↔ i ∈ Region.ready md ops listed := by
  rw [mem_ready, mem_ready, getD_push true (by omega), Array.getElem?_push_lt hi, Array.getElem?_eq_getElem hi]
  simp only [getD_push_f]
theorem ready_last {listed : Array Bool} (hs : listed.size = ops.size) (hl : sinkB md ops.size last = true) : ops.size ∈ Region.ready md (ops.push last) (listed.push false) ↔ ∀ i, i < ops.size → listed.getD i false = true := by
  obtain ⟨_, h2, h3⟩ := sinkB_spec hl
  rw [mem_ready]
  constructor
  · rintro ⟨_, o, ho, hall⟩ i hi
    have : o = last := by simpa using ho.symm
    subst this
    obtain ⟨e, he, hb, rfl⟩ := h3 i hi
    have := hall e he hb
    rwa [getD_push_f] at this
  · intro h
    refine ⟨by rw [← hs]; simp [Array.getD], last, by simp, fun e he hb => ?_⟩
    rw [getD_push_f]
    exact h _ (h2 e he)
/-- If nothing may come up, all have come up. -/
theorem all_listed {listed : Array Bool} (hs : listed.size = ops.size) (hb : backB ops = true) (hr : Region.ready md ops listed = []) : ∀ i, i < ops.size → listed.getD i false = true := by
  intro i
  induction i using Nat.strongRecOn with
  | _ i ih =>
    intro hi
    cases hg : listed.getD i false
    · exfalso
      have : i ∈ Region.ready md ops listed := by
        rw [mem_ready]
        refine ⟨?_, ops[i], Array.getElem?_eq_getElem hi, fun e he _ => ?_⟩
        · have h' : i < listed.size := by omega
          simp [Array.getD, h'] at hg ⊢; exact hg
        · have := (backB_spec hb (Array.getElem?_eq_getElem hi)).2 e he
          exact ih _ this (by omega)
      rw [hr] at this; cases this
    · rfl
theorem ready_lt {listed : Array Bool} {i : Nat} (h : i ∈ Region.ready md ops listed) : i < ops.size := by
  unfold Region.ready at h
  exact List.mem_range.1 (List.mem_filter.1 h).1
theorem wp_sinkQ {o : Oper} {a : Act} {w : World} {K K' : Act → World → Prop} (h : ∀ a w, K a w → K' a w) (hh : o.wp P a w K (sinkQ P last Q)) : o.wp P a w K' Q := by
  unfold Oper.wp at *
  generalize (execOp a.eval o).run P w = r at *
  cases r with
  | ok n w' =>
    cases n <;> simp only [Oper.upon] at hh ⊢ <;>
      first
        | exact h _ _ hh
        | exact Calls.mono hh (fun e w'' he => by
            cases e with
            | returned u => exact h _ _ he
            | panicked c => exact he
            | outgrown => exact he)
        | exact Rows.mono hh (fun _ _ he => h _ _ he)
  | halt x w' => cases x <;> simp only [Oper.upon] at hh ⊢ <;> exact hh
theorem wpAny_end {listed : Array Bool} {a : Act} {w : World} (hs : listed.size = ops.size) (hl : sinkB md ops.size last = true) (hall : ∀ i, i < ops.size → listed.getD i false = true) (h : sinkQ P last Q .normal a w) (fuel : Nat) : wpAny P md (ops.push last) Q (fuel + 1) (listed.push false) a w := by
  have h1 := (ready_last hs hl).2 hall
  have hon : ∀ i ∈ Region.ready md (ops.push last) (listed.push false), i = ops.size := fun i hi => by
    have h2 := ready_lt hi
    rw [Array.size_push] at h2
    by_cases e : i < ops.size
    · have h3 := (mem_ready.1 ((ready_push hs e).1 hi)).1
      have h4 := hall i e
      have h' : i < listed.size := by omega
      simp [Array.getD, h'] at h3 h4
      rw [h4] at h3; cases h3
    · omega
  have hend : Region.ready md (ops.push last) ((listed.push false).setIfInBounds ops.size true) = [] := by
    rcases hr : Region.ready md (ops.push last) ((listed.push false).setIfInBounds ops.size true) with _ | ⟨j, l⟩
    · rfl
    · exfalso
      have hj : j ∈ Region.ready md (ops.push last) ((listed.push false).setIfInBounds ops.size true) := by rw [hr]; exact List.mem_cons_self
      have h2 := ready_lt hj
      have h3 := (mem_ready.1 hj).1
      rw [Array.size_push] at h2
      by_cases e : j = ops.size
      · subst e
        rw [← hs] at h3
        simp [Array.getD] at h3
      · rw [getD_set_ne true (fun e2 => e e2.symm), getD_push true (by omega)] at h3
        have h4 := hall j (by omega)
        have h' : j < listed.size := by omega
        simp [Array.getD, h'] at h3 h4
        rw [h4] at h3; cases h3
  refine ⟨fun e => (by rw [e] at h1; cases h1), fun i hi => ?_⟩
  rw [hon i hi]
  unfold wpOp
  simp only [Array.getElem?_push_size]
  rw [if_pos (wanted_free (sinkB_spec hl).1 _)]
  refine .inl (Oper.wp_mono (fun a' w' hq => ?_) h)
  cases fuel with
  | zero => exact ⟨hend, hq⟩
  | succ f => exact ⟨fun _ => hq, by rw [hend]; intro j hj; cases hj⟩
theorem wpAny_sink (hb : backB ops = true) (hl : sinkB md ops.size last = true) : ∀ (fuel : Nat) (listed : Array Bool) (a : Act) (w : World), listed.size = ops.size → wpAny P md ops (sinkQ P last Q) fuel listed a w → wpAny P md (ops.push last) Q (fuel + 1) (listed.push false) a w
  | 0, listed, a, w, hs, h => wpAny_end hs hl (all_listed hs hb h.1) h.2 0
  | fuel + 1, listed, a, w, hs, h => by
    by_cases hr : Region.ready md ops listed = []
    · exact wpAny_end hs hl (all_listed hs hb hr) (h.1 hr) _
    · have hnl : ¬ ∀ i, i < ops.size → listed.getD i false = true := fun hall => hr (by
        rcases hr' : Region.ready md ops listed with _ | ⟨j, l⟩
        · rfl
        · have hj : j ∈ Region.ready md ops listed := by rw [hr']; exact List.mem_cons_self
          have h3 := (mem_ready.1 hj).1
          have h4 := hall j (ready_lt hj)
          have h' : j < listed.size := by have := ready_lt hj; omega
          simp [Array.getD, h'] at h3 h4
          rw [h4] at h3; cases h3)
      have hlt : ∀ i ∈ Region.ready md (ops.push last) (listed.push false), i < ops.size := fun i hi => by
        have h2 := ready_lt hi
        rw [Array.size_push] at h2
        by_cases e : i = ops.size
        · subst e; exact absurd ((ready_last hs hl).1 hi) hnl
        · omega
      refine ⟨fun e => ?_, fun i hi => ?_⟩
      · exfalso
        rcases hr' : Region.ready md ops listed with _ | ⟨j, l⟩
        · exact hr hr'
        · have hj : j ∈ Region.ready md ops listed := by rw [hr']; exact List.mem_cons_self
          have := (ready_push (last := last) hs (ready_lt hj)).2 hj
          rw [e] at this; cases this
      · have hi' := (ready_push hs (hlt i hi)).1 hi
        have h1 := h.2 i hi'
        have hilt := hlt i hi
        unfold wpOp at h1 ⊢
        rw [Array.getElem?_push_lt hilt]
        rw [Array.getElem?_eq_getElem hilt] at h1
        simp only at h1 ⊢
        have hg := (backB_spec hb (Array.getElem?_eq_getElem hilt)).1
        rw [if_pos (wanted_free hg _)] at h1 ⊢
        have hset : (listed.push false).setIfInBounds i true = (listed.setIfInBounds i true).push false := by
          apply Array.ext
          · simp
          · intro j h1 h2
            simp only [Array.size_setIfInBounds, Array.size_push] at h1 h2
            rw [Array.getElem_setIfInBounds (by simp; omega), Array.getElem_push, Array.getElem_push]
            by_cases hj : j < listed.size
            · rw [dif_pos hj, dif_pos (by simpa using hj), Array.getElem_setIfInBounds (by simpa using hj)]
            · rw [dif_neg hj, dif_neg (by simpa using hj), if_neg (by omega)]
        rcases h1 with h1 | ⟨h1, h2⟩
        · refine .inl (wp_sinkQ (fun a' w' hk => ?_) h1)
          rw [hset]
          exact wpAny_sink hb hl fuel _ a' w' (by rw [Array.size_setIfInBounds]; exact hs) hk
        · exact .inr ⟨h1, h2⟩
/-- All but the last operation are done in whatever order, S held behind each; then the last one. -/
theorem wp_region_sink {id : Nat} {a : Act} {w : World} {all : Array Oper} (S : World → Prop) (hm : P.follows .mixedOrders = true) (hall : all = ops.push last) (hb : backB ops = true) (hl : sinkB .any ops.size last = true) (hS : S w.drew)
    (h : S w.drew → wpAnyH P .any ops (sinkQ P last Q) S ops.size (Array.replicate ops.size false) a w.drew) : (Code.region id all true).wp P Q a w := by
  subst hall
  refine wp_region_any hm ?_
  have h1 := wpAny_sink hb hl ops.size (Array.replicate ops.size false) a w.drew (by simp) (wpAny_of_held _ _ _ _ (h hS))
  rw [Array.size_push]
  have e : Array.replicate (ops.size + 1) false = (Array.replicate ops.size false).push false := by rw [Array.replicate_succ]
  rw [e]
  exact h1
/-- The world under a name of its own. -/
theorem wpAnyH_gen {S : World → Prop} {fuel : Nat} {listed : Array Bool} {a : Act} {w : World} (h : ∀ W, W = w → S W → wpAnyH P md ops Q S fuel listed a W) (hS : S w) : wpAnyH P md ops Q S fuel listed a w := h w rfl hS
theorem wp_region_sink' {id : Nat} {a : Act} {w : World} {l : List Oper} {o : Oper} (S : World → Prop) (hm : P.follows .mixedOrders = true) (hb : backB (o :: l).dropLast.toArray = true) (hl : sinkB .any (o :: l).dropLast.toArray.size ((o :: l).getLast (List.cons_ne_nil _ _)) = true) (hS : S w.drew)
    (h : S w.drew → wpAnyH P .any (o :: l).dropLast.toArray (sinkQ P ((o :: l).getLast (List.cons_ne_nil _ _)) Q) S (o :: l).dropLast.toArray.size (Array.replicate (o :: l).dropLast.toArray.size false) a w.drew) : (Code.region id (o :: l).toArray true).wp P Q a w :=
  wp_region_sink S hm (by
    rw [List.push_toArray, List.dropLast_concat_getLast]) hb hl hS h
end
end Go.Proofs.YtdakdpfofgkjoaaGreatDoor
set_option linter.unusedVariables false
set_option linter.unusedSimpArgs false
namespace Go.Proofs.YtdakdpfofgkjoaaGreatDoor
open Go.RowKit

theorem own_shape {w : World} {base n size : Nat} {e : TypeId} {v : Value} {xs : List Value} (h : w.ownsRow base e size v n xs) : ∃ A c, v = .slice A n c := by
  rcases h.2 with ⟨rfl, rfl⟩ | ⟨g, cap, cur, rfl, _⟩
  · exact ⟨none, 0, rfl⟩
  · exact ⟨_, _, rfl⟩

section
variable {P : Program} (w : World)

theorem run_append_rd (base : Nat) (t ty e : TypeId) (i : TypeInfo) (z : Value) (size bytes : Nat) (ht : P.underlying t = some (.slice e)) (hi : P.info? e = some i) (hz : i.zero = some z)
    (hsize : i.size = size) (hby : i.bytes = bytes) (hzs : z.cells.size = size) (hsz : 0 < size)
    (v : Value) (n : Nat) (xs : List Value) (hown : w.ownsRow base e size v n xs)
    (D : Dom) (A : Option Addr) (m c : Nat) (news : List Value) (hr : Rd w D size A m c news) (h1 : ∀ u ∈ news, u.oneCell' = true)
    (hbytes : (n + m) * bytes ≤ 140737488355328) (h63 : n + m ≤ maxLen) (hbase : base ≤ w.heap.size) :
    ∃ A' c' w', (Builtin.append_ #[t, t] ty #[v, .slice A m c]).run P w = .ok (.slice A' (n + m) c') w' ∧ w'.ownsRow base e size (.slice A' (n + m) c') (n + m) (xs ++ news) ∧ w.grownBy w' v.ownBlock ∧
      ((Value.slice A' (n + m) c').ownBlock = v.ownBlock ∨ (Value.slice A' (n + m) c').ownBlock = some w.heap.size) := by
  rcases A with _ | ad
  · have hm : m = 0 := by
      rcases Nat.eq_zero_or_pos m with h0 | h0
      · exact h0
      · obtain ⟨_, _, h, _⟩ := hr.2 h0
        cases h
    subst hm
    have hn : news = [] := List.eq_nil_of_length_eq_zero (by simpa using hr.1.1)
    subst hn
    obtain ⟨A', c', rfl⟩ := own_shape hown
    refine ⟨A', c', w, ?_, by simpa using hown, World.grownBy.refl w _, .inl rfl⟩
    rcases hown.2 with ⟨hv, _⟩ | ⟨g, cap, cur, hv, _, _, hnc, _⟩
    · injection hv with e1 e2 e3
      subst e1 e2 e3
      simp [Builtin.append_, run_underlying ht, sizeOf, typeInfo, hi, Builtin.lenOf, Builtin.firstCells]
    · injection hv with e1 e2 e3
      subst e1 e3
      simp [Builtin.append_, run_underlying ht, sizeOf, typeInfo, hi, Builtin.lenOf, Builtin.firstCells, hnc, storeCells]
  · have hcells : ∀ j u, news[j]? = some u → w.cell? (ad.add j) = some u := by
      intro j u hu
      rcases Nat.eq_zero_or_pos m with h0 | h0
      · subst h0
        have hn : news = [] := List.eq_nil_of_length_eq_zero (by simpa using hr.1.1)
        subst hn
        simp at hu
      · obtain ⟨b, o, h, _, _, hc⟩ := hr.2 h0
        injection h with h
        subst h
        have e : (⟨b, o, none⟩ : Addr).add j = ⟨b, o + j, none⟩ := by
          unfold Addr.add
          by_cases h0 : j = 0 <;> simp [h0]
        rw [e]
        exact hc j u hu
    obtain ⟨v', w', hrun, h2, h3, _, h5⟩ := run_append_own_at (P := P) w base t ty e i z size bytes ht hi hz hsize hby hzs hsz v n xs hown ad m c news hr.1.1 hcells h1 h63 hbytes hbase
    obtain ⟨A', c', rfl⟩ := own_shape h2
    exact ⟨A', c', w', hrun, h2, h3, h5⟩

theorem wp_append_rd {o : Oper} {a : Act} {K : Act → World → Prop} {Q : Exit → Act → World → Prop} (s x : Operand) (t : TypeId)
    (ho : o.op = .call { callee := .builtin .append, args := #[s, x], argTypes := #[t, t] })
    (base : Nat) (e : TypeId) (i : TypeInfo) (z : Value) (size bytes : Nat) (ht : P.underlying t = some (.slice e)) (hi : P.info? e = some i) (hz : i.zero = some z)
    (hsize : i.size = size) (hby : i.bytes = bytes) (hzs : z.cells.size = size) (hsz : 0 < size)
    (v : Value) (n : Nat) (xs : List Value) (hs : a.eval s = v) (hown : w.ownsRow base e size v n xs)
    (D : Dom) (A : Option Addr) (m c : Nat) (news : List Value) (hx : a.eval x = .slice A m c) (hr : Rd w D size A m c news) (h1 : ∀ u ∈ news, u.oneCell' = true)
    (hbytes : (n + m) * bytes ≤ 140737488355328) (h63 : n + m ≤ maxLen) (hbase : base ≤ w.heap.size)
    (h : ∀ A' c' w', w'.ownsRow base e size (.slice A' (n + m) c') (n + m) (xs ++ news) → w.grownBy w' v.ownBlock → ((Value.slice A' (n + m) c').ownBlock = v.ownBlock ∨ (Value.slice A' (n + m) c').ownBlock = some w.heap.size) →
      K (a.put o.dst (.slice A' (n + m) c')) w') : o.wp P a w K Q := by
  obtain ⟨A', c', w', hrun, h2, h3, h4⟩ := run_append_rd (P := P) w base t o.type e i z size bytes ht hi hz hsize hby hzs hsz v n xs hown D A m c news hr h1 hbytes h63 hbase
  unfold Oper.wp execOp
  simp only [ho, resolve, invoke, builtin, Sem.run_bind, Sem.run_pure, Result.andThen_ok, List.map_toArray, List.map_cons, List.map_nil, hs, hx, hrun]
  exact h A' c' w' h2 h3 h4

theorem wpList_append_rd {ops : Array Oper} {rest : List Oper} {o : Oper} {a : Act} {Q : Exit → Act → World → Prop} (hgd : o.guard = none) (s x : Operand) (t : TypeId)
    (ho : o.op = .call { callee := .builtin .append, args := #[s, x], argTypes := #[t, t] })
    (base : Nat) (e : TypeId) (i : TypeInfo) (z : Value) (size bytes : Nat) (ht : P.underlying t = some (.slice e)) (hi : P.info? e = some i) (hz : i.zero = some z)
    (hsize : i.size = size) (hby : i.bytes = bytes) (hzs : z.cells.size = size) (hsz : 0 < size)
    (v : Value) (n : Nat) (xs : List Value) (hs : a.eval s = v) (hown : w.ownsRow base e size v n xs)
    (D : Dom) (A : Option Addr) (m c : Nat) (news : List Value) (hx : a.eval x = .slice A m c) (hr : Rd w D size A m c news) (h1 : ∀ u ∈ news, u.oneCell' = true)
    (hbytes : (n + m) * bytes ≤ 140737488355328) (h63 : n + m ≤ maxLen) (hbase : base ≤ w.heap.size)
    (h : ∀ A' c' w', w'.ownsRow base e size (.slice A' (n + m) c') (n + m) (xs ++ news) → w.grownBy w' v.ownBlock → ((Value.slice A' (n + m) c').ownBlock = v.ownBlock ∨ (Value.slice A' (n + m) c').ownBlock = some w.heap.size) →
      wpList P ops Q rest (a.put o.dst (.slice A' (n + m) c')) w') : wpList P ops Q (o :: rest) a w :=
  wpList_plain hgd fun _ hK => wp_append_rd w s x t ho base e i z size bytes ht hi hz hsize hby hzs hsz v n xs hs hown D A m c news hx hr h1 hbytes h63 hbase fun A' c' w' h2 h3 h4 => hK _ _ (h A' c' w' h2 h3 h4)

theorem step_append_rd {ops : Array Oper} {o : Oper} {a : Act} {K : Act → World → Prop} {Q : Exit → Act → World → Prop} {E : Prop} (hgd : o.guard = none) (s x : Operand) (t : TypeId)
    (ho : o.op = .call { callee := .builtin .append, args := #[s, x], argTypes := #[t, t] })
    (base : Nat) (e : TypeId) (i : TypeInfo) (z : Value) (size bytes : Nat) (ht : P.underlying t = some (.slice e)) (hi : P.info? e = some i) (hz : i.zero = some z)
    (hsize : i.size = size) (hby : i.bytes = bytes) (hzs : z.cells.size = size) (hsz : 0 < size)
    (v : Value) (n : Nat) (xs : List Value) (hs : a.eval s = v) (hown : w.ownsRow base e size v n xs)
    (D : Dom) (A : Option Addr) (m c : Nat) (news : List Value) (hx : a.eval x = .slice A m c) (hr : Rd w D size A m c news) (h1 : ∀ u ∈ news, u.oneCell' = true)
    (hbytes : (n + m) * bytes ≤ 140737488355328) (h63 : n + m ≤ maxLen) (hbase : base ≤ w.heap.size)
    (h : ∀ A' c' w', w'.ownsRow base e size (.slice A' (n + m) c') (n + m) (xs ++ news) → w.grownBy w' v.ownBlock → ((Value.slice A' (n + m) c').ownBlock = v.ownBlock ∨ (Value.slice A' (n + m) c').ownBlock = some w.heap.size) →
      K (a.put o.dst (.slice A' (n + m) c')) w') :
    if Region.wanted o (yielded ops a.tmps) = true then Oper.wp P o a w K Q else E := by
  have hw : Region.wanted o (yielded ops a.tmps) = true := by simp [Region.wanted, hgd]
  rw [if_pos hw]
  exact wp_append_rd w s x t ho base e i z size bytes ht hi hz hsize hby hzs hsz v n xs hs hown D A m c news hx hr h1 hbytes h63 hbase h
end

theorem ints_one (zs : List Int) : ∀ u ∈ zs.map (Value.int .i64), u.oneCell' = true := by
  intro u hu
  obtain ⟨z, _, rfl⟩ := List.mem_map.1 hu
  rfl
/-- The row of cells that has just been laid. -/
theorem Rd.fresh {w : World} {D : Dom} {cs : Array Value} {t : TypeId} {n k size : Nat} (hk : k = w.heap.size) (hD : D k) (hs : cs.size = n * size) (hn : n ≤ 140737488355328) :
    Rd (w.alloc (.cells cs t)) D size (some ⟨k, 0, none⟩) n n cs.toList := by
  subst hk
  refine ⟨⟨by simpa using hs, hn, Nat.le_refl _, by omega⟩, fun _ => ⟨_, 0, rfl, hD, by simp, fun j u hu => ?_⟩⟩
  rw [Nat.zero_add]
  exact cell_new w cs t _ j u rfl (by simpa using hu)
theorem cell_newN (w : World) (cs : Array Value) (t : TypeId) (n i q : Nat) (u : Value) (h : n = w.heap.size) (hu : cs[i]? = some u) : ((w.alloc (.cells cs t)).drewN q).cell? ⟨n, i, none⟩ = some u := cell_new w cs t n i u h hu
theorem Rd.cell1 {w : World} {k : Nat} {u : Value} (h : w.cell? ⟨k, 0, none⟩ = some u) : Rd w (fun _ => True) 1 (some ⟨k, 0, none⟩) 1 1 [u] := by
  refine ⟨⟨by simp, by omega, by omega, by omega⟩, fun _ => ⟨k, 0, rfl, trivial, World.block_lt_of_cell? w ⟨k, 0, none⟩ h, fun j v hv => ?_⟩⟩
  cases j with
  | zero => simp at hv; subst hv; exact h
  | succ j => simp at hv
theorem Rd.cell3 {w : World} {k : Nat} {u0 u1 u2 : Value} (h0 : w.cell? ⟨k, 0, none⟩ = some u0) (h1 : w.cell? ⟨k, 1, none⟩ = some u1) (h2 : w.cell? ⟨k, 2, none⟩ = some u2) : Rd w (fun _ => True) 3 (some ⟨k, 0, none⟩) 1 1 [u0, u1, u2] := by
  refine ⟨⟨by simp, by omega, by omega, by omega⟩, fun _ => ⟨k, 0, rfl, trivial, World.block_lt_of_cell? w ⟨k, 0, none⟩ h0, fun j v hv => ?_⟩⟩
  match j, hv with
  | 0, hv => simp at hv; subst hv; exact h0
  | 1, hv => simp at hv; subst hv; exact h1
  | 2, hv => simp at hv; subst hv; exact h2
  | j + 3, hv => simp at hv
theorem maxLen_le {n : Nat} (h : n ≤ 9223372036854775807) : n ≤ maxLen := h
/-- The world under a name of its own. -/
theorem wp_gen {P : Program} {c : Code} {Q : Exit → Act → World → Prop} {a : Act} {w : World} (h : ∀ W, W = w → c.wp P Q a W) : c.wp P Q a w := h w rfl
theorem own_below {w W : World} {base n size : Nat} {e : TypeId} {v : Value} {xs : List Value} (h : w.ownsRow base e size v n xs) (hb : Below w.heap.size w W) : W.ownsRow base e size v n xs :=
  h.kept (row := none) ⟨hb.os, hb.tape, hb.output, hb.size, fun k hk _ => hb.block k hk⟩ (by cases v.ownBlock <;> simp)
theorem below_drewN {B : Nat} {w W : World} (h : Below B w W) (n : Nat) : Below B w (W.drewN n) := h.trans ((Drawn.n W n).below B)
/-! make([]T, n), T of one cell. -/
section
variable {P : Program} (w : World)
theorem wp_make_one {o : Oper} {a : Act} {K : Act → World → Prop} {Q : Exit → Act → World → Prop} (l c : Operand) (t : TypeId) (hop : o.op = Op.makeSlice t l c)
    (base : Nat) (e : TypeId) (i : TypeInfo) (z : Value) (bytes : Nat) (h1 : P.underlying t = some (.slice e)) (h2 : P.info? e = some i) (h3 : i.zero = some z) (h4 : i.size = 1) (h5 : i.bytes = bytes) (h6 : z.cells = #[z])
    (kl kc : IntKind) (L C : Int) (n : Nat) (hl : a.eval l = .int kl L) (hc : a.eval c = .int kc C) (hL : L = (n : Int)) (hC : C = (n : Int)) (b2 : bytes * n ≤ 281474976710656) (b3 : n ≤ maxLen) (b4 : base ≤ w.heap.size)
    (hK : ∀ w', w'.ownsRow base e 1 (.slice (some ⟨w.heap.size, 0, none⟩) n n) n (List.replicate n z) → w.grownBy w' none → K (a.put o.dst (.slice (some ⟨w.heap.size, 0, none⟩) n n)) w') : o.wp P a w K Q := by
  subst h5 hL hC
  obtain ⟨w', hrun, r1, r2⟩ := run_make_full (P := P) w base t e i z 1 h1 h2 h3 h4 kl kc n b2 b3 b4
  rw [h6, Nat.mul_one, toList_madeCells_one] at r1
  unfold Oper.wp
  simp [execOp, hop, hl, hc, hrun, Result.andThen]
  exact hK w' r1 r2
theorem wpList_make_one {ops : Array Oper} {rest : List Oper} {o : Oper} {a : Act} {Q : Exit → Act → World → Prop} (hg : o.guard = none) (l c : Operand) (t : TypeId) (hop : o.op = Op.makeSlice t l c)
    (base : Nat) (e : TypeId) (i : TypeInfo) (z : Value) (bytes : Nat) (h1 : P.underlying t = some (.slice e)) (h2 : P.info? e = some i) (h3 : i.zero = some z) (h4 : i.size = 1) (h5 : i.bytes = bytes) (h6 : z.cells = #[z])
    (kl kc : IntKind) (L C : Int) (n : Nat) (hl : a.eval l = .int kl L) (hc : a.eval c = .int kc C) (hL : L = (n : Int)) (hC : C = (n : Int)) (b2 : bytes * n ≤ 281474976710656) (b3 : n ≤ maxLen) (b4 : base ≤ w.heap.size)
    (hK : ∀ w', w'.ownsRow base e 1 (.slice (some ⟨w.heap.size, 0, none⟩) n n) n (List.replicate n z) → w.grownBy w' none → wpList P ops Q rest (a.put o.dst (.slice (some ⟨w.heap.size, 0, none⟩) n n)) w') : wpList P ops Q (o :: rest) a w :=
  wpList_plain hg fun _ hK' => wp_make_one w l c t hop base e i z bytes h1 h2 h3 h4 h5 h6 kl kc L C n hl hc hL hC b2 b3 b4 fun w' r1 r2 => hK' _ _ (hK w' r1 r2)
theorem step_make_one {ops : Array Oper} {o : Oper} {a : Act} {K : Act → World → Prop} {Q : Exit → Act → World → Prop} {E : Prop} (hg : o.guard = none) (l c : Operand) (t : TypeId) (hop : o.op = Op.makeSlice t l c)
    (base : Nat) (e : TypeId) (i : TypeInfo) (z : Value) (bytes : Nat) (h1 : P.underlying t = some (.slice e)) (h2 : P.info? e = some i) (h3 : i.zero = some z) (h4 : i.size = 1) (h5 : i.bytes = bytes) (h6 : z.cells = #[z])
    (kl kc : IntKind) (L C : Int) (n : Nat) (hl : a.eval l = .int kl L) (hc : a.eval c = .int kc C) (hL : L = (n : Int)) (hC : C = (n : Int)) (b2 : bytes * n ≤ 281474976710656) (b3 : n ≤ maxLen) (b4 : base ≤ w.heap.size)
    (hK : ∀ w', w'.ownsRow base e 1 (.slice (some ⟨w.heap.size, 0, none⟩) n n) n (List.replicate n z) → w.grownBy w' none → K (a.put o.dst (.slice (some ⟨w.heap.size, 0, none⟩) n n)) w') :
    if Region.wanted o (yielded ops a.tmps) = true then Oper.wp P o a w K Q else E := by
  have hw : Region.wanted o (yielded ops a.tmps) = true := by simp [Region.wanted, hg]
  rw [if_pos hw]
  exact wp_make_one w l c t hop base e i z bytes h1 h2 h3 h4 h5 h6 kl kc L C n hl hc hL hC b2 b3 b4 hK
end
theorem grown_below {w w' : World} {B : Nat} (h : w.grownBy w' none) (hB : B ≤ w.heap.size) : Below B w w' := (Below.refl _ _).grown h hB (by simp)
/-- A row of n zeros, as 'make' lays it. -/
def zrow (z : Value) (n : Nat) (e : TypeId) : Obj := .cells (Array.replicate n z) e
theorem run_make_zrow {P : Program} (t e : TypeId) (i : TypeInfo) (z : Value) (bytes : Nat) (h1 : P.underlying t = some (.slice e)) (h2 : P.info? e = some i) (h3 : i.zero = some z) (h4 : i.size = 1) (h5 : i.bytes = bytes) (h6 : z.cells = #[z])
    (kl kc : IntKind) (n : Nat) (b2 : bytes * n ≤ 281474976710656) (b3 : n ≤ 9223372036854775807) (w : World) :
    (Instr.makeSlice t (.int kl (n : Int)) (.int kc (n : Int))).run P w = .ok (.slice (some ⟨w.heap.size, 0, none⟩) n n) (w.alloc (zrow z n e)) := by
  have e1 : madeCells #[z] n = Array.replicate n z := by
    apply Array.toList_inj.1
    rw [toList_madeCells_one]; simp
  subst h5
  have b2' : (i.bytes : Int) * (n : Int) ≤ 281474976710656 := by rw [← Int.natCast_mul]; omega
  have hr := run_make w t e i z h1 h2 h3 kl kc n n (by omega) (by omega) b2' (by omega)
  rw [h4, h6, Int.toNat_natCast, Nat.mul_one, e1] at hr
  exact hr
theorem own_zrow (w : World) (base : Nat) (z : Value) (n : Nat) (e : TypeId) (hb : base ≤ w.heap.size) (hn : n ≤ maxLen) : (w.alloc (zrow z n e)).ownsRow base e 1 (.slice (some ⟨w.heap.size, 0, none⟩) n n) n (List.replicate n z) := by
  have := World.ownsRow_lit (base := base) (e := e) (size := 1) w (Array.replicate n z) n hb hn (by simp)
  rw [Array.toList_replicate] at this
  exact this
theorem own_ne {w : World} {base n size g : Nat} {e t : TypeId} {v : Value} {xs : List Value} {cs : Array Value} {fr : Nat × Nat} (h : w.ownsRow base e size v n xs) (hg : w.heap[g]? = some (.cells cs t fr)) (hne : e ≠ t) : v.ownBlock ≠ some g := by
  rcases h.2 with ⟨rfl, _⟩ | ⟨g', cap, cur, rfl, _, hh, _⟩
  · simp [Value.ownBlock]
  · intro he
    have : g' = g := by simpa [Value.ownBlock] using he
    subst this
    rw [hh] at hg
    injection hg with hg
    injection hg with _ h1
    exact hne h1
theorem set_block {w : World} {b i : Nat} {cs : Array Value} {t : TypeId} (h : w.heap[b]? = some (.cells cs t (0, 0))) (u : Value) : (w.setCell ⟨b, i, none⟩ u).heap[b]? = some (.cells (cs.setIfInBounds i u) t (0, 0)) := by
  simp [World.setCell, Array.getElem?_modify, h]
theorem block_cell {w : World} {b i : Nat} {cs : Array Value} {t : TypeId} {fr : Nat × Nat} {u : Value} (h : w.heap[b]? = some (.cells cs t fr)) (hu : cs[i]? = some u) : w.cell? ⟨b, i, none⟩ = some u := by
  simp [World.cell?, h, hu]
theorem block_free {w : World} {b i : Nat} {cs : Array Value} {t : TypeId} (h : w.heap[b]? = some (.cells cs t (0, 0))) : w.frozen? ⟨b, i, none⟩ = false := by
  simp [World.frozen?, h]
end Go.Proofs.YtdakdpfofgkjoaaGreatDoor
set_option linter.unusedVariables false
set_option linter.unusedSimpArgs false
namespace Go.Proofs.YtdakdpfofgkjoaaGreatDoor
open Go.RowKit

set_option linter.unusedSectionVars false
theorem idxOf_cons_ne {κ : Type} [DecidableEq κ] {a k : κ} (l : List κ) (h : a ≠ k) : (a :: l).idxOf k = l.idxOf k + 1 := by
  rw [List.idxOf_cons, beq_eq_false_iff_ne.2 h]; rfl
/-- Keys of type K are the values of κ. -/
structure KeyT (P : Program) (K : TypeId) {κ : Type} [DecidableEq κ] (enc : κ → Value) : Prop where
  check : ∀ (e : Bool) (w : World) (k : κ), (Instr.checkKey e 10000 K (enc k)).run P w = .ok () w
  find : ∀ (w : World) (k : κ) (es : List MapEntry) (ks : List κ), es.map (·.key) = ks.map enc →
    (Instr.findKey K (enc k) es).run P w = .ok (if k ∈ ks then some (ks.idxOf k, (es.getD (ks.idxOf k) default).val) else none) w
  same : ∀ k : κ, Instr.sameBits 10000 (enc k) (enc k) = true

section
variable {P : Program} {K : TypeId} {κ : Type} [DecidableEq κ] {enc : κ → Value}

theorem find_asking (heq : ∀ (w : World) (a b : κ), (Op.equal K (enc a) (enc b)).run P w = .ok (decide (a = b)) w) (w : World) (k : κ) : ∀ (es : List MapEntry) (ks : List κ) (i : Nat), es.map (·.key) = ks.map enc →
    (Instr.findAsking K (enc k) es i).run P w = .ok (if k ∈ ks then some (i + ks.idxOf k, (es.getD (ks.idxOf k) default).val) else none) w
  | [], [], i, _ => by simp [Instr.findAsking]
  | [], _ :: _, _, h => by simp at h
  | _ :: _, [], _, h => by simp at h
  | e :: es, a :: ks, i, h => by
    simp only [List.map_cons, List.cons.injEq] at h
    simp only [Instr.findAsking, Sem.run_bind, h.1, heq w k a, Result.andThen_ok]
    by_cases hk : k = a
    · subst hk; simp
    · have := find_asking heq w k es ks (i + 1) h.2
      simp only [hk, decide_false, Bool.false_eq_true, if_false, this]
      have hi : (a :: ks).idxOf k = ks.idxOf k + 1 := idxOf_cons_ne ks fun e => hk e.symm
      simp only [List.mem_cons, hk, false_or, hi, List.getD_cons_succ]
      congr 1
      split
      · congr 2; omega
      · rfl

/-- Keys that are compared by asking (structs, arrays). -/
theorem KeyT.of_asking (check : ∀ (e : Bool) (w : World) (k : κ), (Instr.checkKey e 10000 K (enc k)).run P w = .ok () w) (heq : ∀ (w : World) (a b : κ), (Op.equal K (enc a) (enc b)).run P w = .ok (decide (a = b)) w)
    {d : TypeDesc} (hd : P.underlying K = some d) (hn : ∀ a b : κ, Instr.sameNow d (enc a) (enc b) = none) (same : ∀ k : κ, Instr.sameBits 10000 (enc k) (enc k) = true) : KeyT P K enc :=
  ⟨check, fun w k es ks h => by
    match es, ks, h with
    | [], [], _ => simp [Instr.findKey, run_underlying hd, Instr.findNow]
    | e :: es, a :: ks, h =>
      have h1 : e.key = enc a := by simp at h; exact h.1
      have h2 := find_asking heq w k (e :: es) (a :: ks) 0 h
      simp only [Nat.zero_add] at h2
      simp only [Instr.findKey, Sem.run_bind, run_underlying hd, Result.andThen_ok, Instr.findNow, h1, hn, h2], same⟩

/-- Keys that are compared at once (ints, strings, bools). -/
theorem KeyT.of_now {d : TypeDesc} (hd : P.underlying K = some d) (hc : ∀ (e : Bool) (w : World) (k : κ), (Instr.checkKey e 10000 K (enc k)).run P w = .ok () w) (hn : ∀ a b : κ, Instr.sameNow d (enc a) (enc b) = some (decide (a = b)))
    (same : ∀ k : κ, Instr.sameBits 10000 (enc k) (enc k) = true) : KeyT P K enc :=
  ⟨hc, fun w k es ks h => by
    have key : ∀ (es : List MapEntry) (ks : List κ) (i : Nat), es.map (·.key) = ks.map enc → Instr.findNow d (enc k) es i = some (if k ∈ ks then some (i + ks.idxOf k, (es.getD (ks.idxOf k) default).val) else none) := by
      intro es
      induction es with
      | nil => intro ks i h; match ks, h with
                             | [], _ => simp [Instr.findNow]
      | cons e es ih =>
        intro ks i h
        match ks, h with
        | a :: ks, h =>
          simp only [List.map_cons, List.cons.injEq] at h
          simp only [Instr.findNow, h.1, hn]
          by_cases hk : k = a
          · subst hk; simp
          · simp only [hk, decide_false, ih ks (i + 1) h.2]
            have hi : (a :: ks).idxOf k = ks.idxOf k + 1 := idxOf_cons_ne ks fun e => hk e.symm
            simp only [List.mem_cons, hk, false_or, hi, List.getD_cons_succ]
            congr 1
            split
            · congr 2; omega
            · rfl
    have h2 := key es ks 0 h
    simp only [Nat.zero_add] at h2
    simp only [Instr.findKey, Sem.run_bind, run_underlying hd, Result.andThen_ok, h2, Sem.run_pure], same⟩

/-- Block mb is the map of the list l, in the order in which the keys came. -/
def MapIs (enc : κ → Value) (w : World) (mb : Nat) (l : List (κ × Value)) : Prop :=
  ∃ es clock, w.heap[mb]? = some (.map es clock) ∧ es.toList.map (fun e => (e.key, e.val)) = l.map (fun p => (enc p.1, p.2)) ∧ es.toList.map (·.born) = List.range clock

theorem MapIs.keys {w : World} {l : List (κ × Value)} {es : Array MapEntry} (h : es.toList.map (fun e => (e.key, e.val)) = l.map (fun p => (enc p.1, p.2))) : es.toList.map (·.key) = (l.map (·.1)).map enc := by
  have := congrArg (List.map Prod.fst) h
  simpa [Function.comp_def] using this
theorem MapIs.vals {w : World} {l : List (κ × Value)} {es : Array MapEntry} (h : es.toList.map (fun e => (e.key, e.val)) = l.map (fun p => (enc p.1, p.2))) : es.toList.map (·.val) = l.map (·.2) := by
  have := congrArg (List.map Prod.snd) h
  simpa [Function.comp_def] using this
theorem MapIs.of_block {w w' : World} {mb : Nat} {l : List (κ × Value)} (h : MapIs enc w mb l) (hb : w'.heap[mb]? = w.heap[mb]?) : MapIs enc w' mb l := by
  obtain ⟨es, clock, h1, h2⟩ := h
  exact ⟨es, clock, hb.trans h1, h2⟩
theorem MapIs.lt {w : World} {mb : Nat} {l : List (κ × Value)} (h : MapIs enc w mb l) : mb < w.heap.size := by
  obtain ⟨es, clock, h1, _⟩ := h
  exact lt_of_block h1
theorem MapIs.new (w : World) : MapIs enc (w.alloc (.map #[] 0)) w.heap.size [] := ⟨#[], 0, heap_alloc_new w _, rfl, rfl⟩

/-- What the map holds at a key. -/
def lookL (l : List (κ × Value)) (k : κ) : Option Value := (l.find? fun p => decide (p.1 = k)).map (·.2)
theorem lookL_idx (l : List (κ × Value)) (k : κ) (h : k ∈ l.map (·.1)) : lookL l k = some ((l.map (·.2)).getD ((l.map (·.1)).idxOf k) default) := by
  induction l with
  | nil => simp at h
  | cons p l ih =>
    unfold lookL
    by_cases hp : p.1 = k
    · subst hp; simp
    · have h' : k ∈ l.map (·.1) := by
        simp only [List.map_cons, List.mem_cons] at h
        exact h.resolve_left (fun e => hp e.symm)
      have := ih h'
      unfold lookL at this
      rw [List.find?_cons, decide_eq_false hp]
      rw [this, List.map_cons, List.map_cons, idxOf_cons_ne _ hp, List.getD_cons_succ]
theorem lookL_none (l : List (κ × Value)) (k : κ) (h : k ∉ l.map (·.1)) : lookL l k = none := by
  unfold lookL
  rw [List.find?_eq_none.2]
  · rfl
  · intro p hp
    simp only [decide_eq_true_eq]
    intro e
    exact h (e ▸ List.mem_map_of_mem hp)

theorem run_lookup_is (HK : KeyT P K enc) {T E : TypeId} (hT : P.underlying T = some (.map K E)) {z : Value} {w : World} (hz : (zeroValue E).run P w = .ok z w) {mb : Nat} {l : List (κ × Value)} (h : MapIs enc w mb l) (k : κ) (ok : Bool) :
    (Instr.lookup T (.map (some mb)) (enc k) ok).run P w = .ok (if ok then .tuple #[(lookL l k).getD z, .bool (lookL l k).isSome] else (lookL l k).getD z) w := by
  obtain ⟨es, clock, h1, h2, h3⟩ := h
  have hf := HK.find w k es.toList (l.map (·.1)) (MapIs.keys (w := w) h2)
  have hv := MapIs.vals (w := w) h2
  have hg : ∀ es' : Array MapEntry, (getObj mb).run P w = .ok (.map es clock) w := fun _ => by simp [getObj, Sem.run, h1]
  simp only [Instr.lookup, Sem.run_bind, run_underlying hT, Result.andThen_ok, hg es, Sem.run_pure, HK.check, hf]
  by_cases hk : k ∈ l.map (·.1)
  · have hd : (es.toList.getD ((l.map (·.1)).idxOf k) default).val = (l.map (·.2)).getD ((l.map (·.1)).idxOf k) default := by
      rw [← hv]
      simp only [List.getD, List.getElem?_map]
      cases hh : es.toList[(l.map (·.1)).idxOf k]? with
      | none =>
        exfalso
        have hl : es.toList.length = l.length := by have := congrArg List.length h2; simpa using this
        rw [List.getElem?_eq_none_iff] at hh
        have := List.idxOf_lt_length_of_mem hk
        rw [List.length_map] at this
        omega
      | some e => rfl
    rw [lookL_idx l k hk]
    simp only [hk, if_true, hd]
    cases ok <;> simp
  · rw [lookL_none l k hk]
    simp only [hk, if_false, Sem.run_bind, hz, Result.andThen_ok]
    cases ok <;> simp

/-- The map with a key set. -/
def putL (l : List (κ × Value)) (k : κ) (v : Value) : List (κ × Value) := if k ∈ l.map (·.1) then l.map (fun p => if p.1 = k then (p.1, v) else p) else l ++ [(k, v)]
theorem run_update_new (HK : KeyT P K enc) {T E : TypeId} (hT : P.underlying T = some (.map K E)) {w : World} {mb : Nat} {l : List (κ × Value)} (h : MapIs enc w mb l) (k : κ) (v : Value) (hk : k ∉ l.map (·.1)) :
    ∃ w', (Instr.mapUpdate T (.map (some mb)) (enc k) v).run P w = .ok () w' ∧ MapIs enc w' mb (l ++ [(k, v)]) ∧ w.grownBy w' (some mb) ∧ w'.heap.size = w.heap.size := by
  obtain ⟨es, clock, h1, h2, h3⟩ := h
  have hf := HK.find w k es.toList (l.map (·.1)) (MapIs.keys (w := w) h2)
  have hg : (getObj mb).run P w = .ok (.map es clock) w := by simp [getObj, Sem.run, h1]
  have hl := lt_of_block h1
  refine ⟨{ w with heap := w.heap.setIfInBounds mb (.map (es.push { key := enc k, val := v, born := clock }) (clock + 1)) }, ?_, ⟨_, _, by simp [hl]; exact ⟨rfl, rfl⟩, ?_, ?_⟩, ⟨rfl, rfl, rfl, by simp, fun i _ hi => ?_⟩, by simp⟩
  · simp only [Instr.mapUpdate, Sem.run_bind, run_underlying hT, Result.andThen_ok, hg, HK.check, hf, hk, if_false]
    simp [setObj, Sem.run, h1]
  · rw [Array.toList_push, List.map_append, List.map_append, h2]; rfl
  · rw [Array.toList_push, List.map_append, h3, List.range_succ]; rfl
  · have : mb ≠ i := fun e => hi (by rw [e])
    simp [this]
end
end Go.Proofs.YtdakdpfofgkjoaaGreatDoor
set_option linter.unusedVariables false
set_option linter.unusedSimpArgs false
namespace Go.Proofs.YtdakdpfofgkjoaaGreatDoor
open Go.RowKit
set_option linter.unusedSectionVars false

theorem filter_less {α : Type} (p q : α → Bool) : ∀ (l : List α), (∀ x ∈ l, q x = true → p x = true) → (∃ x ∈ l, p x = true ∧ q x = false) → (l.filter q).length < (l.filter p).length
  | [], _, ⟨x, hx, _⟩ => by cases hx
  | a :: l, h, ⟨x, hx, h1, h2⟩ => by
    have hle : ∀ (l : List α), (∀ x ∈ l, q x = true → p x = true) → (l.filter q).length ≤ (l.filter p).length := fun l => by
      induction l with
      | nil => exact fun _ => Nat.le_refl _
      | cons b l ih =>
        intro hb
        have := ih fun x hx => hb x (List.mem_cons_of_mem _ hx)
        rw [List.filter_cons, List.filter_cons]
        cases hq : q b
        · cases hp : p b <;> simp <;> omega
        · rw [hb b (by simp) hq]; simp; omega
    have hl := hle l fun x hx => h x (List.mem_cons_of_mem _ hx)
    rw [List.filter_cons, List.filter_cons]
    rcases List.mem_cons.1 hx with rfl | hx
    · rw [h1, h2]; simp; omega
    · have := filter_less p q l (fun x hx => h x (List.mem_cons_of_mem _ hx)) ⟨x, hx, h1, h2⟩
      cases hq : q a
      · cases hp : p a <;> simp <;> omega
      · rw [h a (by simp) hq]; simp; omega

section
variable {κ β γ : Type} [DecidableEq κ]
/-- What a list of entries holds at a key; the list with a key set. -/
def lookB (l : List (κ × β)) (k : κ) : Option β := (l.find? fun p => decide (p.1 = k)).map (·.2)
def updB (l : List (κ × β)) (k : κ) (v : β) : List (κ × β) := if k ∈ l.map (·.1) then l.modify ((l.map (·.1)).idxOf k) (fun _ => (k, v)) else l ++ [(k, v)]
def valB (f : β → γ) (l : List (κ × β)) : List (κ × γ) := l.map fun p => (p.1, f p.2)
theorem valB_keys (f : β → γ) (l : List (κ × β)) : (valB f l).map (·.1) = l.map (·.1) := by unfold valB; rw [List.map_map]; rfl
theorem lookB_val (f : β → γ) (l : List (κ × β)) (k : κ) : lookB (valB f l) k = (lookB l k).map f := by
  unfold lookB valB
  rw [List.find?_map]
  show ((l.find? _).map _).map _ = _
  rw [Option.map_map, Option.map_map]; rfl
theorem updB_val (f : β → γ) (l : List (κ × β)) (k : κ) (v : β) : valB f (updB l k v) = updB (valB f l) k (f v) := by
  unfold updB
  rw [valB_keys]
  split
  · unfold valB
    apply List.ext_getElem?
    intro i
    rw [List.getElem?_map, List.getElem?_modify, List.getElem?_modify, List.getElem?_map]
    by_cases e : (l.map (·.1)).idxOf k = i
    · simp only [e, if_true]
      rcases l[i]? with _ | p <;> rfl
    · simp only [e, if_false]
      rcases l[i]? with _ | p <;> rfl
  · unfold valB; rw [List.map_append]; rfl
theorem lookB_none {l : List (κ × β)} {k : κ} (h : k ∉ l.map (·.1)) : lookB l k = none := by
  unfold lookB
  rw [List.find?_eq_none.2]
  · rfl
  · intro p hp
    simp only [decide_eq_true_eq]
    intro e
    exact h (e ▸ List.mem_map_of_mem hp)
theorem lookB_some {l : List (κ × β)} {k : κ} {v : β} (h : lookB l k = some v) : (k, v) ∈ l := by
  unfold lookB at h
  rcases hf : l.find? (fun p => decide (p.1 = k)) with _ | p
  · rw [hf] at h; cases h
  · rw [hf] at h
    have h1 := List.find?_some hf
    have h2 := List.mem_of_find?_eq_some hf
    simp only [Option.map_some, Option.some.injEq] at h
    rw [decide_eq_true_eq] at h1
    subst h1
    subst h
    exact h2
theorem lookB_cons (p : κ × β) (l : List (κ × β)) (k : κ) : lookB (p :: l) k = if p.1 = k then some p.2 else lookB l k := by
  unfold lookB
  rw [List.find?_cons]
  by_cases h : p.1 = k
  · rw [decide_eq_true h, if_pos h]; rfl
  · rw [decide_eq_false h, if_neg h]
theorem lookB_append (l m : List (κ × β)) (k : κ) : lookB (l ++ m) k = (lookB l k).or (lookB m k) := by
  unfold lookB
  rw [List.find?_append]
  generalize l.find? (fun p => decide (p.1 = k)) = a
  rcases a with _ | p <;> rfl
theorem lookB_upd (l : List (κ × β)) (k : κ) (v : β) (j : κ) : lookB (updB l k v) j = if j = k then some v else lookB l j := by
  unfold updB
  split
  · rename_i hk
    induction l with
    | nil => simp at hk
    | cons p l ih =>
      rw [List.map_cons]
      by_cases hp : p.1 = k
      · have e0 : (p.1 :: l.map (·.1)).idxOf k = 0 := by rw [List.idxOf_cons, hp]; simp
        rw [e0]
        show lookB ((k, v) :: l) j = _
        rw [lookB_cons, lookB_cons]
        dsimp only
        by_cases hj : j = k
        · rw [if_pos hj.symm, if_pos hj]
        · rw [if_neg (fun e => hj e.symm), if_neg hj, if_neg (by rw [hp]; exact fun e => hj e.symm)]
      · have e1 : (p.1 :: l.map (·.1)).idxOf k = (l.map (·.1)).idxOf k + 1 := idxOf_cons_ne _ hp
        have hk' : k ∈ l.map (·.1) := by
          rw [List.map_cons, List.mem_cons] at hk
          exact hk.resolve_left (fun e => hp e.symm)
        rw [e1]
        show lookB (p :: l.modify _ _) j = _
        rw [lookB_cons, lookB_cons, ih hk']
        by_cases hj : j = k
        · subst hj
          rw [if_neg hp, if_pos rfl, if_pos rfl]
        · rw [if_neg hj, if_neg hj]
  · rename_i hk
    rw [lookB_append, lookB_cons]
    by_cases hj : j = k
    · subst hj
      rw [lookB_none hk, if_pos rfl, if_pos rfl]; rfl
    · rw [if_neg (fun e => hj e.symm), if_neg hj]
      show (lookB l j).or none = _
      rw [Option.or_none]
theorem updB_keys (l : List (κ × β)) (k : κ) (v : β) : (updB l k v).map (·.1) = if k ∈ l.map (·.1) then l.map (·.1) else l.map (·.1) ++ [k] := by
  unfold updB
  split
  · rename_i hk
    apply List.ext_getElem?
    intro i
    rw [List.getElem?_map, List.getElem?_modify, List.getElem?_map]
    split
    · rename_i e
      rcases h : l[i]? with _ | p
      · rfl
      · show some k = some p.1
        have h1 : (l.map (·.1))[i]? = some p.1 := by rw [List.getElem?_map, h]; rfl
        have hlt := List.idxOf_lt_length_of_mem hk
        have h2 : (l.map (·.1))[(l.map (·.1)).idxOf k]? = some k := by rw [List.getElem?_eq_getElem hlt, List.getElem_idxOf hlt]
        rw [← e, h2] at h1
        exact h1
    · rcases l[i]? with _ | p <;> rfl
  · rw [List.map_append]; rfl
theorem updB_nodup {l : List (κ × β)} (h : (l.map (·.1)).Nodup) (k : κ) (v : β) : ((updB l k v).map (·.1)).Nodup := by
  rw [updB_keys]
  split
  · exact h
  · rename_i hk
    rw [List.nodup_append]
    exact ⟨h, by simp, fun a ha b hb e => by
      rw [List.mem_singleton] at hb
      subst hb
      subst e
      exact hk ha⟩
theorem lookB_get {l : List (κ × β)} (h : (l.map (·.1)).Nodup) {i : Nat} {p : κ × β} (hp : l[i]? = some p) : lookB l p.1 = some p.2 := by
  induction l generalizing i with
  | nil => simp at hp
  | cons q l ih =>
    rw [List.map_cons, List.nodup_cons] at h
    rw [lookB_cons]
    cases i with
    | zero =>
      simp at hp
      subst hp
      rw [if_pos rfl]
    | succ i =>
      have hp' : l[i]? = some p := by simpa using hp
      have hm : p.1 ∈ l.map (·.1) := List.mem_map_of_mem (List.mem_of_getElem? hp')
      rw [if_neg (fun e : q.1 = p.1 => h.1 (by rw [e]; exact hm))]
      exact ih h.2 hp'
end

section
variable {P : Program} {K : TypeId} {κ : Type} [DecidableEq κ] {enc : κ → Value}
theorem lookL_eq (l : List (κ × Value)) (k : κ) : lookL l k = lookB l k := rfl
theorem run_lookup_b (HK : KeyT P K enc) {T E : TypeId} (hT : P.underlying T = some (.map K E)) {z : Value} {w : World} (hz : (zeroValue E).run P w = .ok z w) {mb : Nat} {l : List (κ × Value)} (h : MapIs enc w mb l) (k : κ) (ok : Bool) :
    (Instr.lookup T (.map (some mb)) (enc k) ok).run P w = .ok (if ok then .tuple #[(lookB l k).getD z, .bool (lookB l k).isSome] else (lookB l k).getD z) w := run_lookup_is HK hT hz h k ok
theorem run_update_b (HK : KeyT P K enc) {T E : TypeId} (hT : P.underlying T = some (.map K E)) {w : World} {mb : Nat} {l : List (κ × Value)} (h : MapIs enc w mb l) (k : κ) (v : Value) :
    ∃ w', (Instr.mapUpdate T (.map (some mb)) (enc k) v).run P w = .ok () w' ∧ MapIs enc w' mb (updB l k v) ∧ w.grownBy w' (some mb) ∧ w'.heap.size = w.heap.size := by
  by_cases hk : k ∈ l.map (·.1)
  · obtain ⟨es, clock, h1, h2, h3⟩ := h
    have hf := HK.find w k es.toList (l.map (·.1)) (MapIs.keys (w := w) h2)
    have hg : (getObj mb).run P w = .ok (.map es clock) w := by simp [getObj, Sem.run, h1]
    have hl := lt_of_block h1
    have hkeys := MapIs.keys (w := w) h2
    have hix := List.idxOf_lt_length_of_mem hk
    have hat : es[(l.map (·.1)).idxOf k]?.map (·.key) = some (enc k) := by
      have e1 : (es.toList.map (·.key))[(l.map (·.1)).idxOf k]? = ((l.map (·.1)).map enc)[(l.map (·.1)).idxOf k]? := by rw [hkeys]
      rw [List.getElem?_map, List.getElem?_map, List.getElem?_eq_getElem hix, List.getElem_idxOf hix] at e1
      rw [← Array.getElem?_toList]
      simpa using e1
    have hkeep : (Instr.keyThatStays (((es[(l.map (·.1)).idxOf k]?).map (·.key)).getD (enc k)) (enc k)).run P w = .ok (enc k) w := by
      rw [hat]
      simp [Instr.keyThatStays, HK.same]
    refine ⟨{ w with heap := w.heap.setIfInBounds mb (.map (es.modify ((l.map (·.1)).idxOf k) fun e => { e with key := enc k, val := v }) clock) }, ?_, ⟨_, _, by simp [hl]; exact ⟨rfl, rfl⟩, ?_, ?_⟩, ⟨rfl, rfl, rfl, by simp, fun i _ hi => ?_⟩, by simp⟩
    · simp only [Instr.mapUpdate, Sem.run_bind, run_underlying hT, Result.andThen_ok, hg, HK.check, hf, hk, if_true, hkeep]
      simp [setObj, Sem.run, h1]
    · unfold updB
      rw [if_pos hk, Array.toList_modify]
      apply List.ext_getElem?
      intro i
      have e2 : (es.toList.map fun e => (e.key, e.val))[i]? = (l.map fun p => (enc p.1, p.2))[i]? := by rw [h2]
      rw [List.getElem?_map, List.getElem?_map] at e2
      rw [List.getElem?_map, List.getElem?_map, List.getElem?_modify, List.getElem?_modify]
      by_cases e : (l.map (·.1)).idxOf k = i
      · simp only [e, if_true]
        rcases hh : es.toList[i]? with _ | x <;> rcases hh2 : l[i]? with _ | p
        · rfl
        · rw [hh, hh2] at e2; cases e2
        · rw [hh, hh2] at e2; cases e2
        · rfl
      · simp only [e, if_false]
        simpa using e2
    · rw [Array.toList_modify]
      rw [← h3]
      apply List.ext_getElem?
      intro i
      rw [List.getElem?_map, List.getElem?_map, List.getElem?_modify]
      by_cases e : (l.map (·.1)).idxOf k = i
      · simp only [e, if_true]
        rcases es.toList[i]? with _ | x <;> rfl
      · simp only [e, if_false]
        rcases es.toList[i]? with _ | x <;> rfl
    · have : mb ≠ i := fun e => hi (by rw [e])
      simp [this]
  · have := run_update_new HK hT h k v hk
    unfold updB
    rw [if_neg hk]
    exact this

/-- The walk over the entries of the map: left i: entry number i is still to come. -/
def RngIs (enc : κ → Value) (w : World) (mb r : Nat) (l : List (κ × Value)) (left : Nat → Bool) : Prop :=
  ∃ es clock seen c0, w.heap[mb]? = some (.map es clock) ∧ es.toList.map (fun e => (e.key, e.val)) = l.map (fun p => (enc p.1, p.2)) ∧ es.toList.map (·.born) = List.range clock ∧
    w.heap[r]? = some (.mapIter (some mb) clock seen c0) ∧ clock ≤ c0 ∧ ∀ i, i < l.length → left i = !seen.contains i
theorem RngIs.map {w : World} {mb r : Nat} {l : List (κ × Value)} {left : Nat → Bool} (h : RngIs enc w mb r l left) : MapIs enc w mb l := by
  obtain ⟨es, clock, seen, c0, h1, h2, h3, _⟩ := h
  exact ⟨es, clock, h1, h2, h3⟩
theorem RngIs.lt {w : World} {mb r : Nat} {l : List (κ × Value)} {left : Nat → Bool} (h : RngIs enc w mb r l left) : r < w.heap.size := by
  obtain ⟨es, clock, seen, c0, h1, h2, h3, h4, _⟩ := h
  exact lt_of_block h4
theorem RngIs.ne {w : World} {mb r : Nat} {l : List (κ × Value)} {left : Nat → Bool} (h : RngIs enc w mb r l left) : r ≠ mb := by
  obtain ⟨es, clock, seen, c0, h1, h2, h3, h4, _⟩ := h
  intro e
  rw [e, h1] at h4; cases h4
theorem RngIs.of_block {w w' : World} {mb r : Nat} {l : List (κ × Value)} {left : Nat → Bool} (h : RngIs enc w mb r l left) (h1 : w'.heap[mb]? = w.heap[mb]?) (h2 : w'.heap[r]? = w.heap[r]?) : RngIs enc w' mb r l left := by
  obtain ⟨es, clock, seen, c0, a1, a2, a3, a4, a5⟩ := h
  exact ⟨es, clock, seen, c0, h1.trans a1, a2, a3, h2.trans a4, a5⟩
theorem map_len {es : Array MapEntry} {l : List (κ × Value)} (h : es.toList.map (fun e => (e.key, e.val)) = l.map (fun p => (enc p.1, p.2))) : es.toList.length = l.length := by
  have := congrArg List.length h
  simpa using this
theorem run_range_b {T E : TypeId} (hT : P.underlying T = some (.map K E)) {w : World} {mb : Nat} {l : List (κ × Value)} (h : MapIs enc w mb l) :
    ∃ w', (Instr.range T (.map (some mb))).run P w = .ok (.pointer (some ⟨w.heap.size, 0, none⟩)) w' ∧ RngIs enc w' mb w.heap.size l (fun _ => true) ∧ Below w.heap.size w w' ∧ w'.heap.size = w.heap.size + 1 := by
  have hlt := h.lt
  obtain ⟨es, clock, h1, h2, h3⟩ := h
  refine ⟨_, run_range_map w T K E mb es clock hT h1, ⟨es, clock, #[], clock, (Below.heap_alloc w _ mb hlt).trans h1, h2, h3, heap_alloc_new w _, Nat.le_refl _, fun i _ => by simp⟩, (Below.refl _ _).alloc (Nat.le_refl _) _, by simp⟩
theorem run_next_b {w : World} {mb r : Nat} {l : List (κ × Value)} {left : Nat → Bool} (h : RngIs enc w mb r l left) (ty : TypeId) :
    ((∀ i, i < l.length → left i = false) ∧ (Instr.next (.pointer (some ⟨r, 0, none⟩)) false ty).run P w = .ok (.tuple #[.bool false]) w) ∨
    ∃ i p w', i < l.length ∧ left i = true ∧ l[i]? = some p ∧ (Instr.next (.pointer (some ⟨r, 0, none⟩)) false ty).run P w = .ok (.tuple #[.bool true, enc p.1, p.2]) w' ∧ RngIs enc w' mb r l (fun j => left j && !decide (j = i)) ∧
      w.grownBy w' (some r) ∧ w'.heap.size = w.heap.size ∧ (Instr.entry (.pointer (some ⟨r, 0, none⟩))).run P w' = .ok (.tuple #[enc p.1, p.2]) w' := by
  have hne := h.ne
  obtain ⟨es, clock, seen, c0, hb, h2, h3, hr, hsc, hl⟩ := h
  have hlen := map_len h2
  have hclk : clock = l.length := by
    have := congrArg List.length h3
    rw [List.length_map, List.length_range, hlen] at this
    exact this.symm
  have hborn : ∀ (i : Nat) (x : MapEntry), es.toList[i]? = some x → x.born = i := fun i x hx => by
    have e1 : (es.toList.map (·.born))[i]? = (List.range clock)[i]? := by rw [h3]
    rw [List.getElem?_map, hx] at e1
    have hi : i < clock := by
      have := (List.getElem?_eq_some_iff.1 hx).1
      omega
    rw [List.getElem?_range hi] at e1
    simpa using e1
  have hold : ∀ x ∈ es.toList, x.born < clock := fun x hx => by
    obtain ⟨i, hi⟩ := List.getElem?_of_mem hx
    rw [hborn i x hi]
    have := (List.getElem?_eq_some_iff.1 hi).1
    omega
  rcases run_next_at (P := P) w ty r mb clock c0 seen es clock hr hb hold hsc with ⟨h0, hrun⟩ | ⟨e, he, w1, hal, hrun⟩
  · refine .inl ⟨fun i hi => ?_, hrun⟩
    rw [hl i hi]
    have hx : es.toList[i]? = some es.toList[i] := List.getElem?_eq_getElem (by omega)
    have := all_seen es seen h0 _ (List.getElem_mem (l := es.toList) (n := i) (by omega))
    rw [hborn i _ hx] at this
    rw [this]; rfl
  · obtain ⟨hem, hes⟩ := mem_left he
    obtain ⟨i, hi⟩ := List.getElem?_of_mem hem
    have hil : i < l.length := by have := (List.getElem?_eq_some_iff.1 hi).1; omega
    have hbi := hborn i e hi
    have hp : l[i]? = some l[i] := List.getElem?_eq_getElem hil
    have hkv : (e.key, e.val) = (enc l[i].1, l[i].2) := by
      have e1 : (es.toList.map fun e => (e.key, e.val))[i]? = (l.map fun p => (enc p.1, p.2))[i]? := by rw [h2]
      rw [List.getElem?_map, List.getElem?_map, hi, hp] at e1
      simpa using e1
    injection hkv with hk1 hk2
    have hr1 : w1.heap[r]? = some (.mapIter (some mb) clock seen c0) := by rcases hal with rfl | rfl <;> exact hr
    have hb1 : w1.heap[mb]? = some (.map es clock) := by rcases hal with rfl | rfl <;> exact hb
    have hset := Go.MapKept.heap_set (o' := .mapIter (some mb) clock (seen.push e.born) clock) hr1
    have hb' := (hset.2 mb (fun e1 => hne e1.symm)).trans hb1
    refine .inr ⟨i, l[i], _, hil, by rw [hl i hil, ← hbi, hes]; rfl, hp, by rw [← hk1, ← hk2]; exact hrun, ⟨es, clock, seen.push e.born, clock, hb', h2, h3, hset.1, Nat.le_refl _, fun j hj => ?_⟩, ?_, ?_, ?_⟩
    · show (left j && !decide (j = i)) = _
      rw [hl j hj, contains_push, hbi]
      cases seen.contains j
      · by_cases hji : j = i
        · subst hji; simp
        · simp [hji]
      · simp
    · rcases hal with rfl | rfl <;> exact ⟨rfl, rfl, rfl, by simp [ChangeMaps.setBlock], fun k _ hk => hset.2 k (fun e1 => hk (by rw [e1]))⟩
    · rcases hal with rfl | rfl <;> simp [ChangeMaps.setBlock]
    · rw [← hk1, ← hk2]
      refine run_entry_at _ r mb clock seen es clock e hset.1 hb' hem ?_
      rw [h3]
      exact List.nodup_range
/-- How many entries are still to come. -/
def cntLeft (n : Nat) (left : Nat → Bool) : Nat := ((List.range n).filter left).length
theorem cntLeft_less {n i : Nat} {left : Nat → Bool} (hi : i < n) (hl : left i = true) : cntLeft n (fun j => left j && !decide (j = i)) < cntLeft n left := by
  unfold cntLeft
  refine filter_less _ _ _ (fun x _ hx => ?_) ⟨i, List.mem_range.2 hi, hl, by simp⟩
  rw [Bool.and_eq_true] at hx
  exact hx.1
end
end Go.Proofs.YtdakdpfofgkjoaaGreatDoor
set_option linter.unusedVariables false
set_option linter.unusedSimpArgs false
namespace Go.Proofs.YtdakdpfofgkjoaaGreatDoor
open Go.RowKit

/-- A formula. -/
inductive Fm where
  | mk (op : Int) (name : ByteArray) (val bound : Int) (args : List Fm)
instance : Inhabited Fm := ⟨.mk 0 ByteArray.empty 0 0 []⟩
namespace Fm
def op : Fm → Int | .mk o _ _ _ _ => o
def name : Fm → ByteArray | .mk _ n _ _ _ => n
def val : Fm → Int | .mk _ _ v _ _ => v
def bound : Fm → Int | .mk _ _ _ b _ => b
def args : Fm → List Fm | .mk _ _ _ _ l => l
theorem eta : ∀ f : Fm, Fm.mk f.op f.name f.val f.bound f.args = f
  | .mk _ _ _ _ _ => rfl
end Fm
mutual
/-- The number of nodes. -/
def Fm.size : Fm → Nat
  | .mk _ _ _ _ l => 1 + sizes l
def sizes : List Fm → Nat
  | [] => 0
  | f :: l => f.size + sizes l
end
theorem Fm.size_eq (f : Fm) : f.size = 1 + sizes f.args := by cases f; simp only [Fm.size, Fm.args]
theorem sizes_mem : ∀ {l : List Fm} {f : Fm}, f ∈ l → f.size ≤ sizes l
  | [], _, h => by cases h
  | g :: l, f, h => by
    rw [sizes]
    rcases List.mem_cons.1 h with e | e
    · subst e; omega
    · have := sizes_mem e; omega
theorem arg_size {f : Fm} {i : Nat} (hi : i < f.args.length) : (f.args.getD i default).size < f.size := by
  have h1 : f.args.getD i default ∈ f.args := by simp [List.getD, hi]
  have := sizes_mem h1
  rw [Fm.size_eq f]; omega
/-- Whatever holds of a formula if it holds of its arguments holds of all. -/
theorem Fm.induct {P : Fm → Prop} (h : ∀ f, (∀ i, i < f.args.length → P (f.args.getD i default)) → P f) (f : Fm) : P f := by
  have key : ∀ n, ∀ f : Fm, f.size ≤ n → P f := by
    intro n
    induction n with
    | zero => intro f hf; rw [Fm.size_eq] at hf; omega
    | succ n ih => intro f hf; exact h f fun i hi => ih _ (by have := arg_size hi; omega)
  exact key _ f (Nat.le_refl _)
/-- What a formula's cells are: its arguments are the slice s. -/
def fcells (f : Fm) (s : Option Addr × Nat) : List Value := [.int .i64 f.op, .string f.name, .int .i64 f.val, .int .i64 f.bound, .slice s.1 f.args.length s.2]
def cellsF (l : List Fm) (sl : List (Option Addr × Nat)) : List Value := (l.zip sl).flatMap fun p => fcells p.1 p.2
/-- A slice of formulas. -/
inductive RdA (w : World) (D : Dom) : List Fm → Option Addr → Nat → Prop where
  | mk (l : List Fm) (A : Option Addr) (c : Nat) (sl : List (Option Addr × Nat)) (len : sl.length = l.length) (cells : Rd w D 5 A l.length c (cellsF l sl))
    (arg : ∀ i, i < l.length → RdA w D (l.getD i default).args (sl.getD i (none, 0)).1 (sl.getD i (none, 0)).2) : RdA w D l A c
section
variable {D E : Dom} {w w' : World} {A : Option Addr} {c : Nat} {l : List Fm}
theorem RdA.out (h : RdA w D l A c) : ∃ sl : List (Option Addr × Nat), sl.length = l.length ∧ Rd w D 5 A l.length c (cellsF l sl) ∧ ∀ i, i < l.length → RdA w D (l.getD i default).args (sl.getD i (none, 0)).1 (sl.getD i (none, 0)).2 := by
  cases h with
  | mk _ _ _ sl h1 h2 h3 => exact ⟨sl, h1, h2, h3⟩
theorem RdA.nil (w : World) (D : Dom) (A : Option Addr) {c : Nat} (hc : c ≤ 9223372036854775807) : RdA w D [] A c := .mk _ _ _ [] rfl (Rd.nil w D 5 A hc) fun _ h => absurd h (Nat.not_lt_zero _)
theorem RdA.len (h : RdA w D l A c) : l.length ≤ 140737488355328 ∧ l.length ≤ c ∧ c ≤ 9223372036854775807 := by
  obtain ⟨_, _, h1, _⟩ := h.out
  exact h1.1.2
theorem RdA.keep (h : RdA w D l A c) (hk : Keeps D w w') : RdA w' D l A c := by
  induction h with
  | mk l A c sl h1 h2 _ ih => exact .mk l A c sl h1 (h2.keep hk) ih
theorem RdA.mono (h : RdA w D l A c) (hE : ∀ b, D b → b < w.heap.size → E b) : RdA w E l A c := by
  induction h with
  | mk l A c sl h1 h2 _ ih => exact .mk l A c sl h1 (h2.mono hE) ih
theorem RdA.old (h : RdA w D l A c) : RdA w (· < w.heap.size) l A c := h.mono fun _ _ hl => hl
theorem RdA.any (h : RdA w D l A c) (hb : Below w.heap.size w w') : RdA w' (fun _ => True) l A c := (h.old.keep (Keeps.of_below hb fun _ h => h)).mono fun _ _ _ => trivial
/-- The cells of a formula's arguments, one by one. -/
theorem flatF_at {α : Type} (f : α → List Value) (d : α) (s : Nat) (hf : ∀ x, (f x).length = s) : ∀ (l : List α) (k j : Nat), k < l.length → j < s → (l.flatMap f)[k * s + j]? = (f (l.getD k d))[j]?
  | [], k, j, h, _ => absurd h (Nat.not_lt_zero _)
  | x :: l, 0, j, _, hj => by
    rw [List.flatMap_cons, List.getElem?_append_left (by rw [hf]; omega)]
    simp
  | x :: l, k + 1, j, h, hj => by
    have e0 : (k + 1) * s = s + k * s := by rw [Nat.add_mul, Nat.one_mul, Nat.add_comm]
    rw [List.flatMap_cons, List.getElem?_append_right (by rw [hf, e0]; omega)]
    have e : (k + 1) * s + j - (f x).length = k * s + j := by rw [hf, e0]; omega
    rw [e, flatF_at f d s hf l k j (by simpa using h) hj]
    simp
theorem zipF_get {L : List Fm} {sl : List (Option Addr × Nat)} (hl : sl.length = L.length) {k : Nat} (hk : k < L.length) : (L.zip sl).getD k (default, (none, 0)) = (L.getD k default, sl.getD k (none, 0)) := by
  have hs : k < sl.length := by omega
  have hzk : k < (L.zip sl).length := by rw [List.length_zip]; omega
  rw [List.getD_eq_getElem?_getD, List.getD_eq_getElem?_getD, List.getD_eq_getElem?_getD, List.getElem?_eq_getElem hzk, List.getElem?_eq_getElem hk, List.getElem?_eq_getElem hs]
  exact List.getElem_zip
theorem cellsF_at {L : List Fm} {sl : List (Option Addr × Nat)} (hl : sl.length = L.length) {k j : Nat} (hk : k < L.length) (hj : j < 5) : (cellsF L sl)[k * 5 + j]? = (fcells (L.getD k default) (sl.getD k (none, 0)))[j]? := by
  unfold cellsF
  rw [flatF_at (fun p : Fm × (Option Addr × Nat) => fcells p.1 p.2) (default, ((none : Option Addr), 0)) 5 (fun _ => rfl) (L.zip sl) k j (by rw [List.length_zip, hl]; omega) hj, zipF_get hl hk]
end
/-- The struct at p is the formula f. -/
structure HasF (w : World) (D : Dom) (b o : Nat) (f : Fm) (A : Option Addr) (c : Nat) : Prop where
  dom : D b
  lt : b < w.heap.size
  c0 : w.cell? ⟨b, o, none⟩ = some (.int .i64 f.op)
  c1 : w.cell? ⟨b, o + 1, none⟩ = some (.string f.name)
  c2 : w.cell? ⟨b, o + 2, none⟩ = some (.int .i64 f.val)
  c3 : w.cell? ⟨b, o + 3, none⟩ = some (.int .i64 f.bound)
  c4 : w.cell? ⟨b, o + 4, none⟩ = some (.slice A f.args.length c)
  args : RdA w D f.args A c
theorem HasF.keep {w w' : World} {D : Dom} {b o : Nat} {f : Fm} {A : Option Addr} {c : Nat} (h : HasF w D b o f A c) (hk : Keeps D w w') : HasF w' D b o f A c :=
  ⟨h.dom, Nat.lt_of_lt_of_le h.lt hk.size, hk.cell h.dom h.c0, hk.cell h.dom h.c1, hk.cell h.dom h.c2, hk.cell h.dom h.c3, hk.cell h.dom h.c4, h.args.keep hk⟩
theorem HasF.mono {w : World} {D E : Dom} {b o : Nat} {f : Fm} {A : Option Addr} {c : Nat} (h : HasF w D b o f A c) (hE : ∀ b, D b → b < w.heap.size → E b) : HasF w E b o f A c :=
  ⟨hE _ h.dom h.lt, h.lt, h.c0, h.c1, h.c2, h.c3, h.c4, h.args.mono hE⟩
theorem HasF.old {w : World} {D : Dom} {b o : Nat} {f : Fm} {A : Option Addr} {c : Nat} (h : HasF w D b o f A c) : HasF w (· < w.heap.size) b o f A c := h.mono fun _ _ hl => hl
/-- An argument of a slice of formulas. -/
theorem RdA.get {w : World} {D : Dom} {l : List Fm} {A : Option Addr} {c k : Nat} (h : RdA w D l A c) (hk : k < l.length) : ∃ b o A' c' f, A = some ⟨b, o, none⟩ ∧ Hid (l.getD k default = f) ∧ HasF w D b (o + k * 5) f A' c' := by
  obtain ⟨sl, h0, h1, h2⟩ := h.out
  obtain ⟨b, o, e, hb, hl, hc⟩ := h1.2 (by omega)
  have g : ∀ j u, j < 5 → (fcells (l.getD k default) (sl.getD k (none, 0)))[j]? = some u → w.cell? ⟨b, o + (k * 5 + j), none⟩ = some u := fun j u hj hu => hc _ _ (by rw [cellsF_at h0 hk hj]; exact hu)
  have g0 := g 0 _ (by omega) rfl
  have g1 := g 1 _ (by omega) rfl
  have g2 := g 2 _ (by omega) rfl
  have g3 := g 3 _ (by omega) rfl
  have g4 := g 4 _ (by omega) rfl
  exact ⟨b, o, _, _, l.getD k default, e, hid rfl, hb, hl, by simpa using g0, by simpa [Nat.add_assoc] using g1, by simpa [Nat.add_assoc] using g2, by simpa [Nat.add_assoc] using g3, by simpa [Nat.add_assoc] using g4, h2 k hk⟩
/-- The value v is the formula f. -/
def RdF3 (w : World) (D : Dom) (v : Value) (f : Fm) : Prop := ∃ A c, v = .agg #[.int .i64 f.op, .string f.name, .int .i64 f.val, .int .i64 f.bound, .slice A f.args.length c] ∧ RdA w D f.args A c
section
variable {D E : Dom} {w w' : World} {v : Value} {f : Fm}
theorem RdF3.keep (h : RdF3 w D v f) (hk : Keeps D w w') : RdF3 w' D v f := let ⟨A, c, e, h1⟩ := h; ⟨A, c, e, h1.keep hk⟩
theorem RdF3.mono (h : RdF3 w D v f) (hE : ∀ b, D b → b < w.heap.size → E b) : RdF3 w E v f := let ⟨A, c, e, h1⟩ := h; ⟨A, c, e, h1.mono hE⟩
theorem RdF3.old (h : RdF3 w D v f) : RdF3 w (· < w.heap.size) v f := h.mono fun _ _ hl => hl
theorem RdF3.any (h : RdF3 w D v f) (hb : Below w.heap.size w w') : RdF3 w' (fun _ => True) v f := (h.old.keep (Keeps.of_below hb fun _ h => h)).mono fun _ _ _ => trivial
end
end Go.Proofs.YtdakdpfofgkjoaaGreatDoor
