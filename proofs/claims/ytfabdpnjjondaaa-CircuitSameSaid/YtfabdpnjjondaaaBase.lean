/-
  Words for memory that all texts of this seat use: a slice that reads as a list, kept over what a call leaves alone.
-/
import Derived.Test.YtfabdpnjjondaaaChecked
import Derived.WalkKit
import Derived.WalkLawsBesides
import Derived.WalkSpells
import Derived.Lib.Hide
import Derived.Deep.QuietTactic
import Derived.BigQuiet
import Derived.Handy
import Derived.Deep.RegionHeld3
import Derived.Deep.RegionLaw
import Derived.Maps.AppendAt
import Derived.Deep.DeepFit
import Derived.Deep.DeepCutAuto
set_option linter.unusedVariables false
set_option linter.unusedSimpArgs false
namespace Go.Proofs.Ytfabdpnjjondaaa
open Go.RowKit

abbrev Dom := Nat → Prop

/-- What lies in the blocks of D is in w' as it was in w. -/
structure Keeps (D : Dom) (w w' : World) : Prop where
  size : w.heap.size ≤ w'.heap.size
  block : ∀ b, D b → b < w.heap.size → w'.heap[b]? = w.heap[b]?

section
variable {D E : Dom} {w w' w'' : World}
theorem Keeps.refl (D : Dom) (w : World) : Keeps D w w := ⟨Nat.le_refl _, fun _ _ _ => rfl⟩
theorem Keeps.trans (h : Keeps D w w') (k : Keeps D w' w'') : Keeps D w w'' :=
  ⟨Nat.le_trans h.size k.size, fun b hb hl => (k.block b hb (Nat.lt_of_lt_of_le hl h.size)).trans (h.block b hb hl)⟩
theorem Keeps.alloc (h : Keeps D w w') (o : Obj) : Keeps D w (w'.alloc o) :=
  h.trans ⟨by simp, fun b _ hl => Below.heap_alloc _ _ _ hl⟩
theorem Keeps.drew (h : Keeps D w w') : Keeps D w w'.drew := ⟨h.size, h.block⟩
theorem Keeps.drewN (h : Keeps D w w') (n : Nat) : Keeps D w (w'.drewN n) := ⟨h.size, h.block⟩
theorem Keeps.set (h : Keeps D w w') {p : Addr} (hp : ¬ D p.block) (u : Value) : Keeps D w (w'.setCell p u) :=
  h.trans ⟨by simp, fun b hb _ => Below.heap_setCell _ _ _ _ (fun e => hp (e ▸ hb))⟩
theorem Keeps.below (h : Keeps D w w') (hb : Below w'.heap.size w' w'') : Keeps D w w'' :=
  h.trans ⟨hb.size, fun b _ hl => hb.block b hl⟩
theorem Keeps.belowLe {B : Nat} (h : Keeps D w w') (hb : Below B w' w'') (hB : w'.heap.size ≤ B) : Keeps D w w'' := h.below (hb.mono hB)
theorem Keeps.grown (h : Keeps D w w') {row : Option Nat} (hg : w'.grownBy w'' row) (hr : ∀ k, row = some k → ¬ D k) : Keeps D w w'' :=
  h.trans ⟨hg.size, fun b hb hl => hg.block b hl (fun e => hr b e.symm hb)⟩
theorem Keeps.mono (h : Keeps D w w') (hE : ∀ b, E b → D b) : Keeps E w w' := ⟨h.size, fun b hb hl => h.block b (hE b hb) hl⟩
theorem Keeps.of_below {B : Nat} (hb : Below B w w') (hD : ∀ b, D b → b < B) : Keeps D w w' := ⟨hb.size, fun b h _ => hb.block b (hD b h)⟩
theorem Keeps.cell (h : Keeps D w w') {b o : Nat} {u : Value} (hb : D b) (hc : w.cell? ⟨b, o, none⟩ = some u) : w'.cell? ⟨b, o, none⟩ = some u := by
  have hl : b < w.heap.size := World.block_lt_of_cell? w ⟨b, o, none⟩ hc
  rw [← hc]
  exact World.cell?_of_block (w := w) (a := ⟨b, o, none⟩) (h.block b hb hl)
end

/-- w' is w but for draws from the tape. -/
def Drawn (w w' : World) : Prop := ∃ n, w' = w.drewN n
theorem Drawn.refl (w : World) : Drawn w w := ⟨0, rfl⟩
theorem Drawn.n (w : World) (n : Nat) : Drawn w (w.drewN n) := ⟨n, rfl⟩
theorem Drawn.drewN {w w' : World} (h : Drawn w w') (n : Nat) : Drawn w (w'.drewN n) := by
  obtain ⟨m, rfl⟩ := h
  exact ⟨m + n, World.drewN_drewN w m n⟩
theorem Drawn.drew {w w' : World} (h : Drawn w w') : Drawn w w'.drew := h.drewN 1
theorem Drawn.trans {w w' w'' : World} (h : Drawn w w') (k : Drawn w' w'') : Drawn w w'' := by
  obtain ⟨m, rfl⟩ := k
  exact h.drewN m
theorem Drawn.keeps {D : Dom} {w w' : World} (h : Drawn w w') : Keeps D w w' := by
  obtain ⟨m, rfl⟩ := h
  exact (Keeps.refl D w).drewN m
theorem Drawn.below {w w' : World} (h : Drawn w w') (B : Nat) : Below B w w' := by
  obtain ⟨m, rfl⟩ := h
  exact ⟨rfl, rfl, rfl, Nat.le_refl _, fun _ _ => rfl⟩

/-- The slice value '.slice A n c' holds the cells xs, size cells each. -/
def Rd (w : World) (D : Dom) (size : Nat) (A : Option Addr) (n c : Nat) (xs : List Value) : Prop :=
  (xs.length = n * size ∧ n ≤ 140737488355328 ∧ n ≤ c ∧ c ≤ 9223372036854775807) ∧
  (0 < n → ∃ b o, A = some ⟨b, o, none⟩ ∧ D b ∧ b < w.heap.size ∧ ∀ j u, xs[j]? = some u → w.cell? ⟨b, o + j, none⟩ = some u)

section
variable {D E : Dom} {w w' : World} {size n c : Nat} {A : Option Addr} {xs : List Value}
theorem Rd.nil (w : World) (D : Dom) (size : Nat) (A : Option Addr) {c : Nat} (hc : c ≤ 9223372036854775807) : Rd w D size A 0 c [] := ⟨⟨by simp, by omega, by omega, hc⟩, fun h => absurd h (by omega)⟩
theorem Rd.keep (h : Rd w D size A n c xs) (hk : Keeps D w w') : Rd w' D size A n c xs :=
  ⟨h.1, fun hn => by
    obtain ⟨b, o, e, hb, hl, hc⟩ := h.2 hn
    exact ⟨b, o, e, hb, Nat.lt_of_lt_of_le hl hk.size, fun j u hu => hk.cell hb (hc j u hu)⟩⟩
theorem Rd.mono (h : Rd w D size A n c xs) (hE : ∀ b, D b → b < w.heap.size → E b) : Rd w E size A n c xs :=
  ⟨h.1, fun hn => by
    obtain ⟨b, o, e, hb, hl, hc⟩ := h.2 hn
    exact ⟨b, o, e, hE b hb hl, hl, hc⟩⟩
theorem Rd.old (h : Rd w D size A n c xs) : Rd w (· < w.heap.size) size A n c xs := h.mono fun _ _ hl => hl
/-- 's[k:]'. -/
theorem Rd.cut {k : Nat} (h : Rd w D size A n c xs) (hk : k ≤ n) :
    Rd w D size (if c = k then A else A.map (·.add (k * size))) (n - k) (c - k) (xs.drop (k * size)) := by
  obtain ⟨⟨h1, h2, h3, h4⟩, h5⟩ := h
  refine ⟨⟨by rw [List.length_drop, h1, Nat.sub_mul], by omega, by omega, by omega⟩, fun hn => ?_⟩
  obtain ⟨b, o, rfl, hb, hl, hcell⟩ := h5 (by omega)
  rw [if_neg (by omega)]
  refine ⟨b, o + k * size, ?_, hb, hl, fun j u hu => ?_⟩
  · unfold Addr.add
    by_cases h0 : k * size = 0 <;> simp [h0]
  · rw [Nat.add_assoc]
    exact hcell _ u (by rw [← hu, List.getElem?_drop])
/-- 's[:k]'. -/
theorem Rd.take {k : Nat} (h : Rd w D size A n c xs) (hk : k ≤ n) : Rd w D size A k c (xs.take (k * size)) := by
  obtain ⟨⟨h1, h2, h3, h4⟩, h5⟩ := h
  refine ⟨⟨by rw [List.length_take, h1]; exact Nat.min_eq_left (Nat.mul_le_mul_right _ hk), by omega, by omega, by omega⟩, fun hn => ?_⟩
  obtain ⟨b, o, rfl, hb, hl, hcell⟩ := h5 (by omega)
  exact ⟨b, o, rfl, hb, hl, fun j u hu => hcell j u (by
    rw [List.getElem?_take] at hu
    split at hu
    · exact hu
    · cases hu)⟩
theorem Rd.own {base : Nat} {e : TypeId} (h : w.ownsRow base e size (.slice A n c) n xs) (hn : n ≤ 140737488355328) (hD : ∀ g, base ≤ g → D g) : Rd w D size A n c xs := by
  rcases h.2 with ⟨hv, h0⟩ | ⟨g, cap, cur, hv, hb, hh, h1, h2, hsz, htk⟩
  · injection hv with _ _ hc
    subst h0
    subst hc
    obtain rfl : xs = [] := List.eq_nil_of_length_eq_zero (by simpa using h.1)
    exact Rd.nil w D size A (by omega)
  · have hA : A = some ⟨g, 0, none⟩ := by injection hv
    have hc : c = cap := by injection hv
    subst hA hc
    refine ⟨⟨h.1, hn, h1, h2⟩, fun hn => ⟨g, 0, rfl, hD g hb, lt_of_block hh, fun j u hu => ?_⟩⟩
    rw [← htk, List.getElem?_take] at hu
    split at hu
    · simp [World.cell?, hh]; simpa using hu
    · cases hu
end

theorem hid {p : Prop} (h : p) : Hid p := h
theorem ret_sl {A : Option Addr} {n m c : Nat} (h : n = m) : Ending.returned (.slice A n c) = .returned (.slice A m c) := by rw [h]
/-- A slice of ints. -/
def RdI (w : World) (D : Dom) (A : Option Addr) (c : Nat) (zs : List Int) : Prop := Rd w D 1 A zs.length c (zs.map (.int .i64))

section
variable {D E : Dom} {w w' : World} {A : Option Addr} {c : Nat} {zs : List Int}
theorem RdI.nil (w : World) (D : Dom) (A : Option Addr) {c : Nat} (hc : c ≤ 9223372036854775807) : RdI w D A c [] := Rd.nil w D 1 A hc
theorem RdI.len (h : RdI w D A c zs) : zs.length ≤ 140737488355328 ∧ zs.length ≤ c ∧ c ≤ 9223372036854775807 := h.1.2
theorem RdI.keep (h : RdI w D A c zs) (hk : Keeps D w w') : RdI w' D A c zs := Rd.keep h hk
theorem RdI.mono (h : RdI w D A c zs) (hE : ∀ b, D b → b < w.heap.size → E b) : RdI w E A c zs := Rd.mono h hE
theorem RdI.old (h : RdI w D A c zs) : RdI w (· < w.heap.size) A c zs := Rd.old h
theorem RdI.get {k : Nat} (h : RdI w D A c zs) (hk : k < zs.length) : ∃ b o x, A = some ⟨b, o, none⟩ ∧ D b ∧ b < w.heap.size ∧ Hid (zs.getD k 0 = x) ∧ w.cell? ⟨b, o + k, none⟩ = some (.int .i64 x) := by
  obtain ⟨b, o, e, hb, hl, hc⟩ := h.2 (by omega)
  exact ⟨b, o, _, e, hb, hl, hid rfl, hc k _ (by simp [hk])⟩
theorem RdI.ptr (h : RdI w D A c zs) (hk : 0 < zs.length) : ∃ b o, A = some ⟨b, o, none⟩ ∧ D b ∧ b < w.heap.size ∧ ∀ k, k < zs.length → w.cell? ⟨b, o + k, none⟩ = some (.int .i64 (zs.getD k 0)) := by
  obtain ⟨b, o, e, hb, hl, hc⟩ := h.2 (by omega)
  exact ⟨b, o, e, hb, hl, fun k hk => hc k _ (by simp [hk])⟩
theorem RdI.cut {k : Nat} (h : RdI w D A c zs) (hk : k ≤ zs.length) : RdI w D (if c = k then A else A.map (·.add k)) (c - k) (zs.drop k) := by
  have := Rd.cut (k := k) h hk
  unfold RdI
  simpa using this
theorem RdI.take {k : Nat} (h : RdI w D A c zs) (hk : k ≤ zs.length) : RdI w D A c (zs.take k) := by
  have := Rd.take (k := k) h hk
  unfold RdI
  simpa [Nat.min_eq_left hk] using this
theorem RdI.one {b o : Nat} {z : Int} (hb : D b) (hc : w.cell? ⟨b, o, none⟩ = some (.int .i64 z)) : RdI w D (some ⟨b, o, none⟩) 1 [z] := by
  refine ⟨⟨by simp, by simp, by simp, by omega⟩, fun _ => ⟨b, o, rfl, hb, World.block_lt_of_cell? w ⟨b, o, none⟩ hc, fun j u hu => ?_⟩⟩
  cases j with
  | zero => simp at hu; subst hu; exact hc
  | succ j => simp at hu
end

/-- A slice of slices of ints. -/
def RdII (w : World) (D : Dom) (A : Option Addr) (c : Nat) (rows : List (List Int)) : Prop :=
  ∃ vs : List Value, Rd w D 1 A rows.length c vs ∧ ∀ i, i < rows.length → ∃ A' c', vs[i]? = some (.slice A' (rows.getD i []).length c') ∧ RdI w D A' c' (rows.getD i [])

section
variable {D E : Dom} {w w' : World} {A : Option Addr} {c : Nat} {rows : List (List Int)}
theorem RdII.nil (w : World) (D : Dom) (A : Option Addr) {c : Nat} (hc : c ≤ 9223372036854775807) : RdII w D A c [] := ⟨[], Rd.nil w D 1 A hc, fun _ h => absurd h (Nat.not_lt_zero _)⟩
theorem RdII.len (h : RdII w D A c rows) : rows.length ≤ 140737488355328 ∧ rows.length ≤ c ∧ c ≤ 9223372036854775807 := let ⟨_, h1, _⟩ := h; h1.1.2
theorem RdII.keep (h : RdII w D A c rows) (hk : Keeps D w w') : RdII w' D A c rows :=
  let ⟨vs, h1, h2⟩ := h
  ⟨vs, h1.keep hk, fun i hi => let ⟨A', c', h3, h4⟩ := h2 i hi; ⟨A', c', h3, h4.keep hk⟩⟩
theorem RdII.mono (h : RdII w D A c rows) (hE : ∀ b, D b → b < w.heap.size → E b) : RdII w E A c rows :=
  let ⟨vs, h1, h2⟩ := h
  ⟨vs, h1.mono hE, fun i hi => let ⟨A', c', h3, h4⟩ := h2 i hi; ⟨A', c', h3, h4.mono hE⟩⟩
theorem RdII.old (h : RdII w D A c rows) : RdII w (· < w.heap.size) A c rows := h.mono fun _ _ hl => hl
theorem RdII.get {k : Nat} (h : RdII w D A c rows) (hk : k < rows.length) : ∃ b o A' c' r, A = some ⟨b, o, none⟩ ∧ D b ∧ b < w.heap.size ∧ Hid (rows.getD k [] = r) ∧ RdI w D A' c' r ∧
    w.cell? ⟨b, o + k, none⟩ = some (.slice A' r.length c') := by
  obtain ⟨vs, h1, h2⟩ := h
  obtain ⟨b, o, e, hb, hl, hc⟩ := h1.2 (by omega)
  obtain ⟨A', c', h3, h4⟩ := h2 k hk
  exact ⟨b, o, A', c', _, e, hb, hl, hid rfl, h4, hc k _ h3⟩
end

theorem cell_alloc_old (w : World) (o : Obj) (p : Addr) (h : p.block < w.heap.size) : (w.alloc o).cell? p = w.cell? p := World.cell?_alloc_lt w o p h
theorem cell_new (w : World) (cs : Array Value) (t : TypeId) (n i : Nat) (u : Value) (h : n = w.heap.size) (hu : cs[i]? = some u) : (w.alloc (.cells cs t)).cell? ⟨n, i, none⟩ = some u := by
  subst h
  rw [World.cell?_alloc_new]; exact hu
/-- Block b holds the cells cs (a struct, a variable that has an address). -/
def Box (w : World) (b : Nat) (cs : Array Value) : Prop := ∀ j u, cs[j]? = some u → w.cell? ⟨b, j, none⟩ = some u
theorem Box.new (w : World) (cs : Array Value) (t : TypeId) {n : Nat} (h : n = w.heap.size) : Box (w.alloc (.cells cs t)) n cs := fun _ u hu => cell_new w cs t _ _ u h hu
theorem Box.below {B : Nat} {w w' : World} {b : Nat} {cs : Array Value} (h : Box w b cs) (hb : Below B w w') (hB : w.heap.size ≤ B) : Box w' b cs := fun j u hu => by
  have := h j u hu
  rw [← this]
  exact hb.cell (p := ⟨b, j, none⟩) (Nat.lt_of_lt_of_le (World.block_lt_of_cell? w ⟨b, j, none⟩ this) hB)
theorem Box.alloc {w : World} {b : Nat} {cs : Array Value} (h : Box w b cs) (o : Obj) : Box (w.alloc o) b cs := h.below ((Below.refl _ _).alloc (Nat.le_refl _) o) (Nat.le_refl _)
theorem Box.grown {w w' : World} {b : Nat} {cs : Array Value} {row : Option Nat} (h : Box w b cs) (hg : w.grownBy w' row) (hne : some b ≠ row) : Box w' b cs := fun j u hu => hg.cell (a := ⟨b, j, none⟩) (h j u hu) hne
theorem Box.set {w : World} {b : Nat} {cs : Array Value} (h : Box w b cs) {p : Addr} (hp : b ≠ p.block) (u : Value) : Box (w.setCell p u) b cs := fun j u' hu => by
  rw [← h j u' hu]
  exact World.cell?_of_block (w := w) (a := ⟨b, j, none⟩) (Below.heap_setCell w p u b hp)
theorem Box.drewN {w : World} {b : Nat} {cs : Array Value} (h : Box w b cs) (n : Nat) : Box (w.drewN n) b cs := h
theorem Box.drew {w : World} {b : Nat} {cs : Array Value} (h : Box w b cs) : Box w.drew b cs := h
theorem ret_bool {a b : Bool} (h : a = b) : Ending.returned (.bool a) = .returned (.bool b) := by rw [h]
theorem ret_int {a b : Int} (h : a = b) : Ending.returned (.int .i64 a) = .returned (.int .i64 b) := by rw [h]
theorem getD_take {α : Type} (l : List α) (d : α) {k j : Nat} (h : j < k) : (l.take k).getD j d = l.getD j d := by
  simp [List.getD, List.getElem?_take, h]
theorem take_succ_getD {α : Type} (l : List α) (d : α) {k : Nat} (h : k < l.length) : l.take (k + 1) = l.take k ++ [l.getD k d] := by
  rw [List.take_succ_eq_append_getElem h]; simp [List.getD, h]
/-- All numbers below n have a property. -/
def allN (n : Nat) (p : Nat → Bool) : Bool := (List.range n).all p
theorem allN_true {n : Nat} {p : Nat → Bool} : allN n p = true ↔ ∀ j, j < n → p j = true := by simp [allN]
theorem allN_of {n : Nat} {p : Nat → Bool} (h : ∀ j, j < n → p j = true) : allN n p = true := allN_true.2 h
theorem allN_false {n j : Nat} {p : Nat → Bool} (h : j < n) (hp : p j = false) : allN n p = false := by
  cases h' : allN n p
  · rfl
  · rw [allN_true.1 h' j h] at hp; cases hp
/-- So far all have it. -/
def SoFar (k : Nat) (p : Nat → Bool) : Prop := ∀ j, j < k → p j = true
theorem SoFar.zero (p : Nat → Bool) : SoFar 0 p := fun _ h => absurd h (Nat.not_lt_zero _)
theorem SoFar.succ {k : Nat} {p : Nat → Bool} (h : SoFar k p) (hp : p k = true) : SoFar (k + 1) p := fun j hj => by
  rcases Nat.lt_succ_iff_lt_or_eq.1 hj with h' | rfl
  · exact h j h'
  · exact hp
theorem SoFar.all {n k : Nat} {p : Nat → Bool} (h : SoFar k p) (hk : n ≤ k) : allN n p = true := allN_of fun j hj => h j (Nat.lt_of_lt_of_le hj hk)
end Go.Proofs.Ytfabdpnjjondaaa
