/-
  Words for memory that all texts of this seat use: a slice that reads as a list, kept over what a call leaves alone.
  append onto a slice of the call's own, the source read by 'Rd'; the law as an operation of a plain region and of one that draws its order.
  Maps that the call itself keeps: a block of entries as a list of keys and values, for keys of any kind whose equality is known.
  Controllers as plain data, and as values in memory.
  Walks: within, row, rows, sizes, Ints, both Valid, Run.
-/
import Derived.Test.YtcmhginhfhiolaaChecked
import Derived.WalkKit
import Derived.WalkLawsBesides
import Derived.WalkSpells
import Derived.Lib.Hide
import Derived.Deep.QuietTactic
import Derived.BigQuiet
import Derived.Handy
import Derived.Deep.RegionHeld3
import Derived.Deep.RegionLaw
import Derived.Maps.AppendAt
import Derived.Deep.DeepFit
import Derived.Deep.DeepCutAuto
import Derived.Laws.AppendOwnNone
import Derived.Laws.StructEq
set_option linter.unusedVariables false
set_option linter.unusedSimpArgs false
namespace Go.Proofs.Ytcmhginhfhiolaa
open Go.RowKit

abbrev Dom := Nat → Prop

/-- What lies in the blocks of D is in w' as it was in w. -/
structure Keeps (D : Dom) (w w' : World) : Prop where
  size : w.heap.size ≤ w'.heap.size
  block : ∀ b, D b → b < w.heap.size → w'.heap[b]? = w.heap[b]?

section
variable {D E : Dom} {w w' w'' : World}
theorem Keeps.refl (D : Dom) (w : World) : Keeps D w w := ⟨Nat.le_refl _, fun _ _ _ => rfl⟩
theorem Keeps.trans (h : Keeps D w w') (k : Keeps D w' w'') : Keeps D w w'' :=
  ⟨Nat.le_trans h.size k.size, fun b hb hl => (k.block b hb (Nat.lt_of_lt_of_le hl h.size)).trans (h.block b hb hl)⟩
theorem Keeps.alloc (h : Keeps D w w') (o : Obj) : Keeps D w (w'.alloc o) :=
  h.trans ⟨by simp, fun b _ hl => Below.heap_alloc _ _ _ hl⟩
theorem Keeps.drew (h : Keeps D w w') : Keeps D w w'.drew := ⟨h.size, h.block⟩
theorem Keeps.drewN (h : Keeps D w w') (n : Nat) : Keeps D w (w'.drewN n) := ⟨h.size, h.block⟩
theorem Keeps.set (h : Keeps D w w') {p : Addr} (hp : ¬ D p.block) (u : Value) : Keeps D w (w'.setCell p u) :=
  h.trans ⟨by simp, fun b hb _ => Below.heap_setCell _ _ _ _ (fun e => hp (e ▸ hb))⟩
theorem Keeps.below (h : Keeps D w w') (hb : Below w'.heap.size w' w'') : Keeps D w w'' :=
  h.trans ⟨hb.size, fun b _ hl => hb.block b hl⟩
theorem Keeps.belowLe {B : Nat} (h : Keeps D w w') (hb : Below B w' w'') (hB : w'.heap.size ≤ B) : Keeps D w w'' := h.below (hb.mono hB)
theorem Keeps.grown (h : Keeps D w w') {row : Option Nat} (hg : w'.grownBy w'' row) (hr : ∀ k, row = some k → ¬ D k) : Keeps D w w'' :=
  h.trans ⟨hg.size, fun b hb hl => hg.block b hl (fun e => hr b e.symm hb)⟩
theorem Keeps.mono (h : Keeps D w w') (hE : ∀ b, E b → D b) : Keeps E w w' := ⟨h.size, fun b hb hl => h.block b (hE b hb) hl⟩
theorem Keeps.of_below {B : Nat} (hb : Below B w w') (hD : ∀ b, D b → b < B) : Keeps D w w' := ⟨hb.size, fun b h _ => hb.block b (hD b h)⟩
theorem Keeps.cell (h : Keeps D w w') {b o : Nat} {u : Value} (hb : D b) (hc : w.cell? ⟨b, o, none⟩ = some u) : w'.cell? ⟨b, o, none⟩ = some u := by
  have hl : b < w.heap.size := World.block_lt_of_cell? w ⟨b, o, none⟩ hc
  rw [← hc]
  exact World.cell?_of_block (w := w) (a := ⟨b, o, none⟩) (h.block b hb hl)
end

/-- w' is w but for draws from the tape. -/
def Drawn (w w' : World) : Prop := ∃ n, w' = w.drewN n
theorem Drawn.refl (w : World) : Drawn w w := ⟨0, rfl⟩
theorem Drawn.n (w : World) (n : Nat) : Drawn w (w.drewN n) := ⟨n, rfl⟩
theorem Drawn.drewN {w w' : World} (h : Drawn w w') (n : Nat) : Drawn w (w'.drewN n) := by
  obtain ⟨m, rfl⟩ := h
  exact ⟨m + n, World.drewN_drewN w m n⟩
theorem Drawn.drew {w w' : World} (h : Drawn w w') : Drawn w w'.drew := h.drewN 1
theorem Drawn.trans {w w' w'' : World} (h : Drawn w w') (k : Drawn w' w'') : Drawn w w'' := by
  obtain ⟨m, rfl⟩ := k
  exact h.drewN m
theorem Drawn.keeps {D : Dom} {w w' : World} (h : Drawn w w') : Keeps D w w' := by
  obtain ⟨m, rfl⟩ := h
  exact (Keeps.refl D w).drewN m
theorem Drawn.below {w w' : World} (h : Drawn w w') (B : Nat) : Below B w w' := by
  obtain ⟨m, rfl⟩ := h
  exact ⟨rfl, rfl, rfl, Nat.le_refl _, fun _ _ => rfl⟩

/-- The slice value '.slice A n c' holds the cells xs, size cells each. -/
def Rd (w : World) (D : Dom) (size : Nat) (A : Option Addr) (n c : Nat) (xs : List Value) : Prop :=
  (xs.length = n * size ∧ n ≤ 140737488355328 ∧ n ≤ c ∧ c ≤ 9223372036854775807) ∧
  (0 < n → ∃ b o, A = some ⟨b, o, none⟩ ∧ D b ∧ b < w.heap.size ∧ ∀ j u, xs[j]? = some u → w.cell? ⟨b, o + j, none⟩ = some u)

section
variable {D E : Dom} {w w' : World} {size n c : Nat} {A : Option Addr} {xs : List Value}
theorem Rd.nil (w : World) (D : Dom) (size : Nat) (A : Option Addr) {c : Nat} (hc : c ≤ 9223372036854775807) : Rd w D size A 0 c [] := ⟨⟨by simp, by omega, by omega, hc⟩, fun h => absurd h (by omega)⟩
theorem Rd.keep (h : Rd w D size A n c xs) (hk : Keeps D w w') : Rd w' D size A n c xs :=
  ⟨h.1, fun hn => by
    obtain ⟨b, o, e, hb, hl, hc⟩ := h.2 hn
    exact ⟨b, o, e, hb, Nat.lt_of_lt_of_le hl hk.size, fun j u hu => hk.cell hb (hc j u hu)⟩⟩
theorem Rd.mono (h : Rd w D size A n c xs) (hE : ∀ b, D b → b < w.heap.size → E b) : Rd w E size A n c xs :=
  ⟨h.1, fun hn => by
    obtain ⟨b, o, e, hb, hl, hc⟩ := h.2 hn
    exact ⟨b, o, e, hE b hb hl, hl, hc⟩⟩
theorem Rd.old (h : Rd w D size A n c xs) : Rd w (· < w.heap.size) size A n c xs := h.mono fun _ _ hl => hl
/-- 's[k:]'. -/
theorem Rd.cut {k : Nat} (h : Rd w D size A n c xs) (hk : k ≤ n) :
    Rd w D size (if c = k then A else A.map (·.add (k * size))) (n - k) (c - k) (xs.drop (k * size)) := by
  obtain ⟨⟨h1, h2, h3, h4⟩, h5⟩ := h
  refine ⟨⟨by rw [List.length_drop, h1, Nat.sub_mul], by omega, by omega, by omega⟩, fun hn => ?_⟩
  obtain ⟨b, o, rfl, hb, hl, hcell⟩ := h5 (by omega)
  rw [if_neg (by omega)]
  refine ⟨b, o + k * size, ?_, hb, hl, fun j u hu => ?_⟩
  · unfold Addr.add
    by_cases h0 : k * size = 0 <;> simp [h0]
  · rw [Nat.add_assoc]
    exact hcell _ u (by rw [← hu, List.getElem?_drop])
/-- 's[:k]'. -/
theorem Rd.take {k : Nat} (h : Rd w D size A n c xs) (hk : k ≤ n) : Rd w D size A k c (xs.take (k * size)) := by
  obtain ⟨⟨h1, h2, h3, h4⟩, h5⟩ := h
  refine ⟨⟨by rw [List.length_take, h1]; exact Nat.min_eq_left (Nat.mul_le_mul_right _ hk), by omega, by omega, by omega⟩, fun hn => ?_⟩
  obtain ⟨b, o, rfl, hb, hl, hcell⟩ := h5 (by omega)
  exact ⟨b, o, rfl, hb, hl, fun j u hu => hcell j u (by
    rw [List.getElem?_take] at hu
    split at hu
    · exact hu
    · cases hu)⟩
theorem Rd.own {base : Nat} {e : TypeId} (h : w.ownsRow base e size (.slice A n c) n xs) (hn : n ≤ 140737488355328) (hD : ∀ g, base ≤ g → D g) : Rd w D size A n c xs := by
  rcases h.2 with ⟨hv, h0⟩ | ⟨g, cap, cur, hv, hb, hh, h1, h2, hsz, htk⟩
  · injection hv with _ _ hc
    subst h0
    subst hc
    obtain rfl : xs = [] := List.eq_nil_of_length_eq_zero (by simpa using h.1)
    exact Rd.nil w D size A (by omega)
  · have hA : A = some ⟨g, 0, none⟩ := by injection hv
    have hc : c = cap := by injection hv
    subst hA hc
    refine ⟨⟨h.1, hn, h1, h2⟩, fun hn => ⟨g, 0, rfl, hD g hb, lt_of_block hh, fun j u hu => ?_⟩⟩
    rw [← htk, List.getElem?_take] at hu
    split at hu
    · simp [World.cell?, hh]; simpa using hu
    · cases hu
end

theorem hid {p : Prop} (h : p) : Hid p := h
theorem ret_sl {A : Option Addr} {n m c : Nat} (h : n = m) : Ending.returned (.slice A n c) = .returned (.slice A m c) := by rw [h]
/-- A slice of ints. -/
def RdI (w : World) (D : Dom) (A : Option Addr) (c : Nat) (zs : List Int) : Prop := Rd w D 1 A zs.length c (zs.map (.int .i64))

section
variable {D E : Dom} {w w' : World} {A : Option Addr} {c : Nat} {zs : List Int}
theorem RdI.nil (w : World) (D : Dom) (A : Option Addr) {c : Nat} (hc : c ≤ 9223372036854775807) : RdI w D A c [] := Rd.nil w D 1 A hc
theorem RdI.len (h : RdI w D A c zs) : zs.length ≤ 140737488355328 ∧ zs.length ≤ c ∧ c ≤ 9223372036854775807 := h.1.2
theorem RdI.keep (h : RdI w D A c zs) (hk : Keeps D w w') : RdI w' D A c zs := Rd.keep h hk
theorem RdI.mono (h : RdI w D A c zs) (hE : ∀ b, D b → b < w.heap.size → E b) : RdI w E A c zs := Rd.mono h hE
theorem RdI.old (h : RdI w D A c zs) : RdI w (· < w.heap.size) A c zs := Rd.old h
theorem RdI.get {k : Nat} (h : RdI w D A c zs) (hk : k < zs.length) : ∃ b o x, A = some ⟨b, o, none⟩ ∧ D b ∧ b < w.heap.size ∧ Hid (zs.getD k 0 = x) ∧ w.cell? ⟨b, o + k, none⟩ = some (.int .i64 x) := by
  obtain ⟨b, o, e, hb, hl, hc⟩ := h.2 (by omega)
  exact ⟨b, o, _, e, hb, hl, hid rfl, hc k _ (by simp [hk])⟩
theorem RdI.ptr (h : RdI w D A c zs) (hk : 0 < zs.length) : ∃ b o, A = some ⟨b, o, none⟩ ∧ D b ∧ b < w.heap.size ∧ ∀ k, k < zs.length → w.cell? ⟨b, o + k, none⟩ = some (.int .i64 (zs.getD k 0)) := by
  obtain ⟨b, o, e, hb, hl, hc⟩ := h.2 (by omega)
  exact ⟨b, o, e, hb, hl, fun k hk => hc k _ (by simp [hk])⟩
theorem RdI.cut {k : Nat} (h : RdI w D A c zs) (hk : k ≤ zs.length) : RdI w D (if c = k then A else A.map (·.add k)) (c - k) (zs.drop k) := by
  have := Rd.cut (k := k) h hk
  unfold RdI
  simpa using this
theorem RdI.take {k : Nat} (h : RdI w D A c zs) (hk : k ≤ zs.length) : RdI w D A c (zs.take k) := by
  have := Rd.take (k := k) h hk
  unfold RdI
  simpa [Nat.min_eq_left hk] using this
theorem RdI.one {b o : Nat} {z : Int} (hb : D b) (hc : w.cell? ⟨b, o, none⟩ = some (.int .i64 z)) : RdI w D (some ⟨b, o, none⟩) 1 [z] := by
  refine ⟨⟨by simp, by simp, by simp, by omega⟩, fun _ => ⟨b, o, rfl, hb, World.block_lt_of_cell? w ⟨b, o, none⟩ hc, fun j u hu => ?_⟩⟩
  cases j with
  | zero => simp at hu; subst hu; exact hc
  | succ j => simp at hu
end

/-- A slice of slices of ints. -/
def RdII (w : World) (D : Dom) (A : Option Addr) (c : Nat) (rows : List (List Int)) : Prop :=
  ∃ vs : List Value, Rd w D 1 A rows.length c vs ∧ ∀ i, i < rows.length → ∃ A' c', vs[i]? = some (.slice A' (rows.getD i []).length c') ∧ RdI w D A' c' (rows.getD i [])

section
variable {D E : Dom} {w w' : World} {A : Option Addr} {c : Nat} {rows : List (List Int)}
theorem RdII.nil (w : World) (D : Dom) (A : Option Addr) {c : Nat} (hc : c ≤ 9223372036854775807) : RdII w D A c [] := ⟨[], Rd.nil w D 1 A hc, fun _ h => absurd h (Nat.not_lt_zero _)⟩
theorem RdII.len (h : RdII w D A c rows) : rows.length ≤ 140737488355328 ∧ rows.length ≤ c ∧ c ≤ 9223372036854775807 := let ⟨_, h1, _⟩ := h; h1.1.2
theorem RdII.keep (h : RdII w D A c rows) (hk : Keeps D w w') : RdII w' D A c rows :=
  let ⟨vs, h1, h2⟩ := h
  ⟨vs, h1.keep hk, fun i hi => let ⟨A', c', h3, h4⟩ := h2 i hi; ⟨A', c', h3, h4.keep hk⟩⟩
theorem RdII.mono (h : RdII w D A c rows) (hE : ∀ b, D b → b < w.heap.size → E b) : RdII w E A c rows :=
  let ⟨vs, h1, h2⟩ := h
  ⟨vs, h1.mono hE, fun i hi => let ⟨A', c', h3, h4⟩ := h2 i hi; ⟨A', c', h3, h4.mono hE⟩⟩
theorem RdII.old (h : RdII w D A c rows) : RdII w (· < w.heap.size) A c rows := h.mono fun _ _ hl => hl
theorem RdII.get {k : Nat} (h : RdII w D A c rows) (hk : k < rows.length) : ∃ b o A' c' r, A = some ⟨b, o, none⟩ ∧ D b ∧ b < w.heap.size ∧ Hid (rows.getD k [] = r) ∧ RdI w D A' c' r ∧
    w.cell? ⟨b, o + k, none⟩ = some (.slice A' r.length c') := by
  obtain ⟨vs, h1, h2⟩ := h
  obtain ⟨b, o, e, hb, hl, hc⟩ := h1.2 (by omega)
  obtain ⟨A', c', h3, h4⟩ := h2 k hk
  exact ⟨b, o, A', c', _, e, hb, hl, hid rfl, h4, hc k _ h3⟩
end

theorem cell_alloc_old (w : World) (o : Obj) (p : Addr) (h : p.block < w.heap.size) : (w.alloc o).cell? p = w.cell? p := World.cell?_alloc_lt w o p h
theorem cell_new (w : World) (cs : Array Value) (t : TypeId) (n i : Nat) (u : Value) (h : n = w.heap.size) (hu : cs[i]? = some u) : (w.alloc (.cells cs t)).cell? ⟨n, i, none⟩ = some u := by
  subst h
  rw [World.cell?_alloc_new]; exact hu
/-- Block b holds the cells cs (a struct, a variable that has an address). -/
def Box (w : World) (b : Nat) (cs : Array Value) : Prop := ∀ j u, cs[j]? = some u → w.cell? ⟨b, j, none⟩ = some u
theorem Box.new (w : World) (cs : Array Value) (t : TypeId) {n : Nat} (h : n = w.heap.size) : Box (w.alloc (.cells cs t)) n cs := fun _ u hu => cell_new w cs t _ _ u h hu
theorem Box.below {B : Nat} {w w' : World} {b : Nat} {cs : Array Value} (h : Box w b cs) (hb : Below B w w') (hB : w.heap.size ≤ B) : Box w' b cs := fun j u hu => by
  have := h j u hu
  rw [← this]
  exact hb.cell (p := ⟨b, j, none⟩) (Nat.lt_of_lt_of_le (World.block_lt_of_cell? w ⟨b, j, none⟩ this) hB)
theorem Box.alloc {w : World} {b : Nat} {cs : Array Value} (h : Box w b cs) (o : Obj) : Box (w.alloc o) b cs := h.below ((Below.refl _ _).alloc (Nat.le_refl _) o) (Nat.le_refl _)
theorem Box.grown {w w' : World} {b : Nat} {cs : Array Value} {row : Option Nat} (h : Box w b cs) (hg : w.grownBy w' row) (hne : some b ≠ row) : Box w' b cs := fun j u hu => hg.cell (a := ⟨b, j, none⟩) (h j u hu) hne
theorem Box.set {w : World} {b : Nat} {cs : Array Value} (h : Box w b cs) {p : Addr} (hp : b ≠ p.block) (u : Value) : Box (w.setCell p u) b cs := fun j u' hu => by
  rw [← h j u' hu]
  exact World.cell?_of_block (w := w) (a := ⟨b, j, none⟩) (Below.heap_setCell w p u b hp)
theorem Box.drewN {w : World} {b : Nat} {cs : Array Value} (h : Box w b cs) (n : Nat) : Box (w.drewN n) b cs := h
theorem Box.drew {w : World} {b : Nat} {cs : Array Value} (h : Box w b cs) : Box w.drew b cs := h
theorem ret_bool {a b : Bool} (h : a = b) : Ending.returned (.bool a) = .returned (.bool b) := by rw [h]
theorem ret_int {a b : Int} (h : a = b) : Ending.returned (.int .i64 a) = .returned (.int .i64 b) := by rw [h]
theorem getD_take {α : Type} (l : List α) (d : α) {k j : Nat} (h : j < k) : (l.take k).getD j d = l.getD j d := by
  simp [List.getD, List.getElem?_take, h]
theorem take_succ_getD {α : Type} (l : List α) (d : α) {k : Nat} (h : k < l.length) : l.take (k + 1) = l.take k ++ [l.getD k d] := by
  rw [List.take_succ_eq_append_getElem h]; simp [List.getD, h]
/-- All numbers below n have a property. -/
def allN (n : Nat) (p : Nat → Bool) : Bool := (List.range n).all p
theorem allN_true {n : Nat} {p : Nat → Bool} : allN n p = true ↔ ∀ j, j < n → p j = true := by simp [allN]
theorem allN_of {n : Nat} {p : Nat → Bool} (h : ∀ j, j < n → p j = true) : allN n p = true := allN_true.2 h
theorem allN_false {n j : Nat} {p : Nat → Bool} (h : j < n) (hp : p j = false) : allN n p = false := by
  cases h' : allN n p
  · rfl
  · rw [allN_true.1 h' j h] at hp; cases hp
/-- So far all have it. -/
def SoFar (k : Nat) (p : Nat → Bool) : Prop := ∀ j, j < k → p j = true
theorem SoFar.zero (p : Nat → Bool) : SoFar 0 p := fun _ h => absurd h (Nat.not_lt_zero _)
theorem SoFar.succ {k : Nat} {p : Nat → Bool} (h : SoFar k p) (hp : p k = true) : SoFar (k + 1) p := fun j hj => by
  rcases Nat.lt_succ_iff_lt_or_eq.1 hj with h' | rfl
  · exact h j h'
  · exact hp
theorem SoFar.all {n k : Nat} {p : Nat → Bool} (h : SoFar k p) (hk : n ≤ k) : allN n p = true := allN_of fun j hj => h j (Nat.lt_of_lt_of_le hj hk)
end Go.Proofs.Ytcmhginhfhiolaa
set_option linter.unusedVariables false
set_option linter.unusedSimpArgs false
namespace Go.Proofs.Ytcmhginhfhiolaa
open Go.RowKit

theorem own_shape {w : World} {base n size : Nat} {e : TypeId} {v : Value} {xs : List Value} (h : w.ownsRow base e size v n xs) : ∃ A c, v = .slice A n c := by
  rcases h.2 with ⟨rfl, rfl⟩ | ⟨g, cap, cur, rfl, _⟩
  · exact ⟨none, 0, rfl⟩
  · exact ⟨_, _, rfl⟩

section
variable {P : Program} (w : World)

theorem run_append_rd (base : Nat) (t ty e : TypeId) (i : TypeInfo) (z : Value) (size bytes : Nat) (ht : P.underlying t = some (.slice e)) (hi : P.info? e = some i) (hz : i.zero = some z)
    (hsize : i.size = size) (hby : i.bytes = bytes) (hzs : z.cells.size = size) (hsz : 0 < size)
    (v : Value) (n : Nat) (xs : List Value) (hown : w.ownsRow base e size v n xs)
    (D : Dom) (A : Option Addr) (m c : Nat) (news : List Value) (hr : Rd w D size A m c news) (h1 : ∀ u ∈ news, u.oneCell' = true)
    (hbytes : (n + m) * bytes ≤ 140737488355328) (h63 : n + m ≤ maxLen) (hbase : base ≤ w.heap.size) :
    ∃ A' c' w', (Builtin.append_ #[t, t] ty #[v, .slice A m c]).run P w = .ok (.slice A' (n + m) c') w' ∧ w'.ownsRow base e size (.slice A' (n + m) c') (n + m) (xs ++ news) ∧ w.grownBy w' v.ownBlock ∧
      ((Value.slice A' (n + m) c').ownBlock = v.ownBlock ∨ (Value.slice A' (n + m) c').ownBlock = some w.heap.size) := by
  rcases A with _ | ad
  · have hm : m = 0 := by
      rcases Nat.eq_zero_or_pos m with h0 | h0
      · exact h0
      · obtain ⟨_, _, h, _⟩ := hr.2 h0
        cases h
    subst hm
    have hn : news = [] := List.eq_nil_of_length_eq_zero (by simpa using hr.1.1)
    subst hn
    obtain ⟨A', c', rfl⟩ := own_shape hown
    refine ⟨A', c', w, ?_, by simpa using hown, World.grownBy.refl w _, .inl rfl⟩
    rcases hown.2 with ⟨hv, _⟩ | ⟨g, cap, cur, hv, _, _, hnc, _⟩
    · injection hv with e1 e2 e3
      subst e1 e2 e3
      simp [Builtin.append_, run_underlying ht, sizeOf, typeInfo, hi, Builtin.lenOf, Builtin.firstCells]
    · injection hv with e1 e2 e3
      subst e1 e3
      simp [Builtin.append_, run_underlying ht, sizeOf, typeInfo, hi, Builtin.lenOf, Builtin.firstCells, hnc, storeCells]
  · have hcells : ∀ j u, news[j]? = some u → w.cell? (ad.add j) = some u := by
      intro j u hu
      rcases Nat.eq_zero_or_pos m with h0 | h0
      · subst h0
        have hn : news = [] := List.eq_nil_of_length_eq_zero (by simpa using hr.1.1)
        subst hn
        simp at hu
      · obtain ⟨b, o, h, _, _, hc⟩ := hr.2 h0
        injection h with h
        subst h
        have e : (⟨b, o, none⟩ : Addr).add j = ⟨b, o + j, none⟩ := by
          unfold Addr.add
          by_cases h0 : j = 0 <;> simp [h0]
        rw [e]
        exact hc j u hu
    obtain ⟨v', w', hrun, h2, h3, _, h5⟩ := run_append_own_at (P := P) w base t ty e i z size bytes ht hi hz hsize hby hzs hsz v n xs hown ad m c news hr.1.1 hcells h1 h63 hbytes hbase
    obtain ⟨A', c', rfl⟩ := own_shape h2
    exact ⟨A', c', w', hrun, h2, h3, h5⟩

theorem wp_append_rd {o : Oper} {a : Act} {K : Act → World → Prop} {Q : Exit → Act → World → Prop} (s x : Operand) (t : TypeId)
    (ho : o.op = .call { callee := .builtin .append, args := #[s, x], argTypes := #[t, t] })
    (base : Nat) (e : TypeId) (i : TypeInfo) (z : Value) (size bytes : Nat) (ht : P.underlying t = some (.slice e)) (hi : P.info? e = some i) (hz : i.zero = some z)
    (hsize : i.size = size) (hby : i.bytes = bytes) (hzs : z.cells.size = size) (hsz : 0 < size)
    (v : Value) (n : Nat) (xs : List Value) (hs : a.eval s = v) (hown : w.ownsRow base e size v n xs)
    (D : Dom) (A : Option Addr) (m c : Nat) (news : List Value) (hx : a.eval x = .slice A m c) (hr : Rd w D size A m c news) (h1 : ∀ u ∈ news, u.oneCell' = true)
    (hbytes : (n + m) * bytes ≤ 140737488355328) (h63 : n + m ≤ maxLen) (hbase : base ≤ w.heap.size)
    (h : ∀ A' c' w', w'.ownsRow base e size (.slice A' (n + m) c') (n + m) (xs ++ news) → w.grownBy w' v.ownBlock → ((Value.slice A' (n + m) c').ownBlock = v.ownBlock ∨ (Value.slice A' (n + m) c').ownBlock = some w.heap.size) →
      K (a.put o.dst (.slice A' (n + m) c')) w') : o.wp P a w K Q := by
  obtain ⟨A', c', w', hrun, h2, h3, h4⟩ := run_append_rd (P := P) w base t o.type e i z size bytes ht hi hz hsize hby hzs hsz v n xs hown D A m c news hr h1 hbytes h63 hbase
  unfold Oper.wp execOp
  simp only [ho, resolve, invoke, builtin, Sem.run_bind, Sem.run_pure, Result.andThen_ok, List.map_toArray, List.map_cons, List.map_nil, hs, hx, hrun]
  exact h A' c' w' h2 h3 h4

theorem wpList_append_rd {ops : Array Oper} {rest : List Oper} {o : Oper} {a : Act} {Q : Exit → Act → World → Prop} (hgd : o.guard = none) (s x : Operand) (t : TypeId)
    (ho : o.op = .call { callee := .builtin .append, args := #[s, x], argTypes := #[t, t] })
    (base : Nat) (e : TypeId) (i : TypeInfo) (z : Value) (size bytes : Nat) (ht : P.underlying t = some (.slice e)) (hi : P.info? e = some i) (hz : i.zero = some z)
    (hsize : i.size = size) (hby : i.bytes = bytes) (hzs : z.cells.size = size) (hsz : 0 < size)
    (v : Value) (n : Nat) (xs : List Value) (hs : a.eval s = v) (hown : w.ownsRow base e size v n xs)
    (D : Dom) (A : Option Addr) (m c : Nat) (news : List Value) (hx : a.eval x = .slice A m c) (hr : Rd w D size A m c news) (h1 : ∀ u ∈ news, u.oneCell' = true)
    (hbytes : (n + m) * bytes ≤ 140737488355328) (h63 : n + m ≤ maxLen) (hbase : base ≤ w.heap.size)
    (h : ∀ A' c' w', w'.ownsRow base e size (.slice A' (n + m) c') (n + m) (xs ++ news) → w.grownBy w' v.ownBlock → ((Value.slice A' (n + m) c').ownBlock = v.ownBlock ∨ (Value.slice A' (n + m) c').ownBlock = some w.heap.size) →
      wpList P ops Q rest (a.put o.dst (.slice A' (n + m) c')) w') : wpList P ops Q (o :: rest) a w :=
  wpList_plain hgd fun _ hK => wp_append_rd w s x t ho base e i z size bytes ht hi hz hsize hby hzs hsz v n xs hs hown D A m c news hx hr h1 hbytes h63 hbase fun A' c' w' h2 h3 h4 => hK _ _ (h A' c' w' h2 h3 h4)

theorem step_append_rd {ops : Array Oper} {o : Oper} {a : Act} {K : Act → World → Prop} {Q : Exit → Act → World → Prop} {E : Prop} (hgd : o.guard = none) (s x : Operand) (t : TypeId)
    (ho : o.op = .call { callee := .builtin .append, args := #[s, x], argTypes := #[t, t] })
    (base : Nat) (e : TypeId) (i : TypeInfo) (z : Value) (size bytes : Nat) (ht : P.underlying t = some (.slice e)) (hi : P.info? e = some i) (hz : i.zero = some z)
    (hsize : i.size = size) (hby : i.bytes = bytes) (hzs : z.cells.size = size) (hsz : 0 < size)
    (v : Value) (n : Nat) (xs : List Value) (hs : a.eval s = v) (hown : w.ownsRow base e size v n xs)
    (D : Dom) (A : Option Addr) (m c : Nat) (news : List Value) (hx : a.eval x = .slice A m c) (hr : Rd w D size A m c news) (h1 : ∀ u ∈ news, u.oneCell' = true)
    (hbytes : (n + m) * bytes ≤ 140737488355328) (h63 : n + m ≤ maxLen) (hbase : base ≤ w.heap.size)
    (h : ∀ A' c' w', w'.ownsRow base e size (.slice A' (n + m) c') (n + m) (xs ++ news) → w.grownBy w' v.ownBlock → ((Value.slice A' (n + m) c').ownBlock = v.ownBlock ∨ (Value.slice A' (n + m) c').ownBlock = some w.heap.size) →
      K (a.put o.dst (.slice A' (n + m) c')) w') :
    if Region.wanted o (yielded ops a.tmps) = true then Oper.wp P o a w K Q else E := by
  have hw : Region.wanted o (yielded ops a.tmps) = true := by simp [Region.wanted, hgd]
  rw [if_pos hw]
  exact wp_append_rd w s x t ho base e i z size bytes ht hi hz hsize hby hzs hsz v n xs hs hown D A m c news hx hr h1 hbytes h63 hbase h
end

theorem ints_one (zs : List Int) : ∀ u ∈ zs.map (Value.int .i64), u.oneCell' = true := by
  intro u hu
  obtain ⟨z, _, rfl⟩ := List.mem_map.1 hu
  rfl
/-- The row of cells that has just been laid. -/
theorem Rd.fresh {w : World} {D : Dom} {cs : Array Value} {t : TypeId} {n k size : Nat} (hk : k = w.heap.size) (hD : D k) (hs : cs.size = n * size) (hn : n ≤ 140737488355328) :
    Rd (w.alloc (.cells cs t)) D size (some ⟨k, 0, none⟩) n n cs.toList := by
  subst hk
  refine ⟨⟨by simpa using hs, hn, Nat.le_refl _, by omega⟩, fun _ => ⟨_, 0, rfl, hD, by simp, fun j u hu => ?_⟩⟩
  rw [Nat.zero_add]
  exact cell_new w cs t _ j u rfl (by simpa using hu)
theorem cell_newN (w : World) (cs : Array Value) (t : TypeId) (n i q : Nat) (u : Value) (h : n = w.heap.size) (hu : cs[i]? = some u) : ((w.alloc (.cells cs t)).drewN q).cell? ⟨n, i, none⟩ = some u := cell_new w cs t n i u h hu
theorem Rd.cell1 {w : World} {k : Nat} {u : Value} (h : w.cell? ⟨k, 0, none⟩ = some u) : Rd w (fun _ => True) 1 (some ⟨k, 0, none⟩) 1 1 [u] := by
  refine ⟨⟨by simp, by omega, by omega, by omega⟩, fun _ => ⟨k, 0, rfl, trivial, World.block_lt_of_cell? w ⟨k, 0, none⟩ h, fun j v hv => ?_⟩⟩
  cases j with
  | zero => simp at hv; subst hv; exact h
  | succ j => simp at hv
theorem Rd.cell3 {w : World} {k : Nat} {u0 u1 u2 : Value} (h0 : w.cell? ⟨k, 0, none⟩ = some u0) (h1 : w.cell? ⟨k, 1, none⟩ = some u1) (h2 : w.cell? ⟨k, 2, none⟩ = some u2) : Rd w (fun _ => True) 3 (some ⟨k, 0, none⟩) 1 1 [u0, u1, u2] := by
  refine ⟨⟨by simp, by omega, by omega, by omega⟩, fun _ => ⟨k, 0, rfl, trivial, World.block_lt_of_cell? w ⟨k, 0, none⟩ h0, fun j v hv => ?_⟩⟩
  match j, hv with
  | 0, hv => simp at hv; subst hv; exact h0
  | 1, hv => simp at hv; subst hv; exact h1
  | 2, hv => simp at hv; subst hv; exact h2
  | j + 3, hv => simp at hv
theorem maxLen_le {n : Nat} (h : n ≤ 9223372036854775807) : n ≤ maxLen := h
/-- The world under a name of its own. -/
theorem wp_gen {P : Program} {c : Code} {Q : Exit → Act → World → Prop} {a : Act} {w : World} (h : ∀ W, W = w → c.wp P Q a W) : c.wp P Q a w := h w rfl
theorem own_below {w W : World} {base n size : Nat} {e : TypeId} {v : Value} {xs : List Value} (h : w.ownsRow base e size v n xs) (hb : Below w.heap.size w W) : W.ownsRow base e size v n xs :=
  h.kept (row := none) ⟨hb.os, hb.tape, hb.output, hb.size, fun k hk _ => hb.block k hk⟩ (by cases v.ownBlock <;> simp)
theorem below_drewN {B : Nat} {w W : World} (h : Below B w W) (n : Nat) : Below B w (W.drewN n) := h.trans ((Drawn.n W n).below B)
/-! make([]T, n), T of one cell. -/
section
variable {P : Program} (w : World)
theorem wp_make_one {o : Oper} {a : Act} {K : Act → World → Prop} {Q : Exit → Act → World → Prop} (l c : Operand) (t : TypeId) (hop : o.op = Op.makeSlice t l c)
    (base : Nat) (e : TypeId) (i : TypeInfo) (z : Value) (bytes : Nat) (h1 : P.underlying t = some (.slice e)) (h2 : P.info? e = some i) (h3 : i.zero = some z) (h4 : i.size = 1) (h5 : i.bytes = bytes) (h6 : z.cells = #[z])
    (kl kc : IntKind) (L C : Int) (n : Nat) (hl : a.eval l = .int kl L) (hc : a.eval c = .int kc C) (hL : L = (n : Int)) (hC : C = (n : Int)) (b2 : bytes * n ≤ 281474976710656) (b3 : n ≤ maxLen) (b4 : base ≤ w.heap.size)
    (hK : ∀ w', w'.ownsRow base e 1 (.slice (some ⟨w.heap.size, 0, none⟩) n n) n (List.replicate n z) → w.grownBy w' none → K (a.put o.dst (.slice (some ⟨w.heap.size, 0, none⟩) n n)) w') : o.wp P a w K Q := by
  subst h5 hL hC
  obtain ⟨w', hrun, r1, r2⟩ := run_make_full (P := P) w base t e i z 1 h1 h2 h3 h4 kl kc n b2 b3 b4
  rw [h6, Nat.mul_one, toList_madeCells_one] at r1
  unfold Oper.wp
  simp [execOp, hop, hl, hc, hrun, Result.andThen]
  exact hK w' r1 r2
theorem wpList_make_one {ops : Array Oper} {rest : List Oper} {o : Oper} {a : Act} {Q : Exit → Act → World → Prop} (hg : o.guard = none) (l c : Operand) (t : TypeId) (hop : o.op = Op.makeSlice t l c)
    (base : Nat) (e : TypeId) (i : TypeInfo) (z : Value) (bytes : Nat) (h1 : P.underlying t = some (.slice e)) (h2 : P.info? e = some i) (h3 : i.zero = some z) (h4 : i.size = 1) (h5 : i.bytes = bytes) (h6 : z.cells = #[z])
    (kl kc : IntKind) (L C : Int) (n : Nat) (hl : a.eval l = .int kl L) (hc : a.eval c = .int kc C) (hL : L = (n : Int)) (hC : C = (n : Int)) (b2 : bytes * n ≤ 281474976710656) (b3 : n ≤ maxLen) (b4 : base ≤ w.heap.size)
    (hK : ∀ w', w'.ownsRow base e 1 (.slice (some ⟨w.heap.size, 0, none⟩) n n) n (List.replicate n z) → w.grownBy w' none → wpList P ops Q rest (a.put o.dst (.slice (some ⟨w.heap.size, 0, none⟩) n n)) w') : wpList P ops Q (o :: rest) a w :=
  wpList_plain hg fun _ hK' => wp_make_one w l c t hop base e i z bytes h1 h2 h3 h4 h5 h6 kl kc L C n hl hc hL hC b2 b3 b4 fun w' r1 r2 => hK' _ _ (hK w' r1 r2)
theorem step_make_one {ops : Array Oper} {o : Oper} {a : Act} {K : Act → World → Prop} {Q : Exit → Act → World → Prop} {E : Prop} (hg : o.guard = none) (l c : Operand) (t : TypeId) (hop : o.op = Op.makeSlice t l c)
    (base : Nat) (e : TypeId) (i : TypeInfo) (z : Value) (bytes : Nat) (h1 : P.underlying t = some (.slice e)) (h2 : P.info? e = some i) (h3 : i.zero = some z) (h4 : i.size = 1) (h5 : i.bytes = bytes) (h6 : z.cells = #[z])
    (kl kc : IntKind) (L C : Int) (n : Nat) (hl : a.eval l = .int kl L) (hc : a.eval c = .int kc C) (hL : L = (n : Int)) (hC : C = (n : Int)) (b2 : bytes * n ≤ 281474976710656) (b3 : n ≤ maxLen) (b4 : base ≤ w.heap.size)
    (hK : ∀ w', w'.ownsRow base e 1 (.slice (some ⟨w.heap.size, 0, none⟩) n n) n (List.replicate n z) → w.grownBy w' none → K (a.put o.dst (.slice (some ⟨w.heap.size, 0, none⟩) n n)) w') :
    if Region.wanted o (yielded ops a.tmps) = true then Oper.wp P o a w K Q else E := by
  have hw : Region.wanted o (yielded ops a.tmps) = true := by simp [Region.wanted, hg]
  rw [if_pos hw]
  exact wp_make_one w l c t hop base e i z bytes h1 h2 h3 h4 h5 h6 kl kc L C n hl hc hL hC b2 b3 b4 hK
end
theorem grown_below {w w' : World} {B : Nat} (h : w.grownBy w' none) (hB : B ≤ w.heap.size) : Below B w w' := (Below.refl _ _).grown h hB (by simp)
/-- A row of n zeros, as 'make' lays it. -/
def zrow (z : Value) (n : Nat) (e : TypeId) : Obj := .cells (Array.replicate n z) e
theorem run_make_zrow {P : Program} (t e : TypeId) (i : TypeInfo) (z : Value) (bytes : Nat) (h1 : P.underlying t = some (.slice e)) (h2 : P.info? e = some i) (h3 : i.zero = some z) (h4 : i.size = 1) (h5 : i.bytes = bytes) (h6 : z.cells = #[z])
    (kl kc : IntKind) (n : Nat) (b2 : bytes * n ≤ 281474976710656) (b3 : n ≤ 9223372036854775807) (w : World) :
    (Instr.makeSlice t (.int kl (n : Int)) (.int kc (n : Int))).run P w = .ok (.slice (some ⟨w.heap.size, 0, none⟩) n n) (w.alloc (zrow z n e)) := by
  have e1 : madeCells #[z] n = Array.replicate n z := by
    apply Array.toList_inj.1
    rw [toList_madeCells_one]; simp
  subst h5
  have b2' : (i.bytes : Int) * (n : Int) ≤ 281474976710656 := by rw [← Int.natCast_mul]; omega
  have hr := run_make w t e i z h1 h2 h3 kl kc n n (by omega) (by omega) b2' (by omega)
  rw [h4, h6, Int.toNat_natCast, Nat.mul_one, e1] at hr
  exact hr
theorem own_zrow (w : World) (base : Nat) (z : Value) (n : Nat) (e : TypeId) (hb : base ≤ w.heap.size) (hn : n ≤ maxLen) : (w.alloc (zrow z n e)).ownsRow base e 1 (.slice (some ⟨w.heap.size, 0, none⟩) n n) n (List.replicate n z) := by
  have := World.ownsRow_lit (base := base) (e := e) (size := 1) w (Array.replicate n z) n hb hn (by simp)
  rw [Array.toList_replicate] at this
  exact this
theorem own_ne {w : World} {base n size g : Nat} {e t : TypeId} {v : Value} {xs : List Value} {cs : Array Value} {fr : Nat × Nat} (h : w.ownsRow base e size v n xs) (hg : w.heap[g]? = some (.cells cs t fr)) (hne : e ≠ t) : v.ownBlock ≠ some g := by
  rcases h.2 with ⟨rfl, _⟩ | ⟨g', cap, cur, rfl, _, hh, _⟩
  · simp [Value.ownBlock]
  · intro he
    have : g' = g := by simpa [Value.ownBlock] using he
    subst this
    rw [hh] at hg
    injection hg with hg
    injection hg with _ h1
    exact hne h1
theorem set_block {w : World} {b i : Nat} {cs : Array Value} {t : TypeId} (h : w.heap[b]? = some (.cells cs t (0, 0))) (u : Value) : (w.setCell ⟨b, i, none⟩ u).heap[b]? = some (.cells (cs.setIfInBounds i u) t (0, 0)) := by
  simp [World.setCell, Array.getElem?_modify, h]
theorem block_cell {w : World} {b i : Nat} {cs : Array Value} {t : TypeId} {fr : Nat × Nat} {u : Value} (h : w.heap[b]? = some (.cells cs t fr)) (hu : cs[i]? = some u) : w.cell? ⟨b, i, none⟩ = some u := by
  simp [World.cell?, h, hu]
theorem block_free {w : World} {b i : Nat} {cs : Array Value} {t : TypeId} (h : w.heap[b]? = some (.cells cs t (0, 0))) : w.frozen? ⟨b, i, none⟩ = false := by
  simp [World.frozen?, h]
end Go.Proofs.Ytcmhginhfhiolaa
set_option linter.unusedVariables false
set_option linter.unusedSimpArgs false
namespace Go.Proofs.Ytcmhginhfhiolaa
open Go.RowKit

set_option linter.unusedSectionVars false
theorem idxOf_cons_ne {κ : Type} [DecidableEq κ] {a k : κ} (l : List κ) (h : a ≠ k) : (a :: l).idxOf k = l.idxOf k + 1 := by
  rw [List.idxOf_cons, beq_eq_false_iff_ne.2 h]; rfl
/-- Keys of type K are the values of κ. -/
structure KeyT (P : Program) (K : TypeId) {κ : Type} [DecidableEq κ] (enc : κ → Value) : Prop where
  check : ∀ (e : Bool) (w : World) (k : κ), (Instr.checkKey e 10000 K (enc k)).run P w = .ok () w
  find : ∀ (w : World) (k : κ) (es : List MapEntry) (ks : List κ), es.map (·.key) = ks.map enc →
    (Instr.findKey K (enc k) es).run P w = .ok (if k ∈ ks then some (ks.idxOf k, (es.getD (ks.idxOf k) default).val) else none) w
  same : ∀ k : κ, Instr.sameBits 10000 (enc k) (enc k) = true

section
variable {P : Program} {K : TypeId} {κ : Type} [DecidableEq κ] {enc : κ → Value}

theorem find_asking (heq : ∀ (w : World) (a b : κ), (Op.equal K (enc a) (enc b)).run P w = .ok (decide (a = b)) w) (w : World) (k : κ) : ∀ (es : List MapEntry) (ks : List κ) (i : Nat), es.map (·.key) = ks.map enc →
    (Instr.findAsking K (enc k) es i).run P w = .ok (if k ∈ ks then some (i + ks.idxOf k, (es.getD (ks.idxOf k) default).val) else none) w
  | [], [], i, _ => by simp [Instr.findAsking]
  | [], _ :: _, _, h => by simp at h
  | _ :: _, [], _, h => by simp at h
  | e :: es, a :: ks, i, h => by
    simp only [List.map_cons, List.cons.injEq] at h
    simp only [Instr.findAsking, Sem.run_bind, h.1, heq w k a, Result.andThen_ok]
    by_cases hk : k = a
    · subst hk; simp
    · have := find_asking heq w k es ks (i + 1) h.2
      simp only [hk, decide_false, Bool.false_eq_true, if_false, this]
      have hi : (a :: ks).idxOf k = ks.idxOf k + 1 := idxOf_cons_ne ks fun e => hk e.symm
      simp only [List.mem_cons, hk, false_or, hi, List.getD_cons_succ]
      congr 1
      split
      · congr 2; omega
      · rfl

/-- Keys that are compared by asking (structs, arrays). -/
theorem KeyT.of_asking (check : ∀ (e : Bool) (w : World) (k : κ), (Instr.checkKey e 10000 K (enc k)).run P w = .ok () w) (heq : ∀ (w : World) (a b : κ), (Op.equal K (enc a) (enc b)).run P w = .ok (decide (a = b)) w)
    {d : TypeDesc} (hd : P.underlying K = some d) (hn : ∀ a b : κ, Instr.sameNow d (enc a) (enc b) = none) (same : ∀ k : κ, Instr.sameBits 10000 (enc k) (enc k) = true) : KeyT P K enc :=
  ⟨check, fun w k es ks h => by
    match es, ks, h with
    | [], [], _ => simp [Instr.findKey, run_underlying hd, Instr.findNow]
    | e :: es, a :: ks, h =>
      have h1 : e.key = enc a := by simp at h; exact h.1
      have h2 := find_asking heq w k (e :: es) (a :: ks) 0 h
      simp only [Nat.zero_add] at h2
      simp only [Instr.findKey, Sem.run_bind, run_underlying hd, Result.andThen_ok, Instr.findNow, h1, hn, h2], same⟩

/-- Keys that are compared at once (ints, strings, bools). -/
theorem KeyT.of_now {d : TypeDesc} (hd : P.underlying K = some d) (hc : ∀ (e : Bool) (w : World) (k : κ), (Instr.checkKey e 10000 K (enc k)).run P w = .ok () w) (hn : ∀ a b : κ, Instr.sameNow d (enc a) (enc b) = some (decide (a = b)))
    (same : ∀ k : κ, Instr.sameBits 10000 (enc k) (enc k) = true) : KeyT P K enc :=
  ⟨hc, fun w k es ks h => by
    have key : ∀ (es : List MapEntry) (ks : List κ) (i : Nat), es.map (·.key) = ks.map enc → Instr.findNow d (enc k) es i = some (if k ∈ ks then some (i + ks.idxOf k, (es.getD (ks.idxOf k) default).val) else none) := by
      intro es
      induction es with
      | nil => intro ks i h; match ks, h with
                             | [], _ => simp [Instr.findNow]
      | cons e es ih =>
        intro ks i h
        match ks, h with
        | a :: ks, h =>
          simp only [List.map_cons, List.cons.injEq] at h
          simp only [Instr.findNow, h.1, hn]
          by_cases hk : k = a
          · subst hk; simp
          · simp only [hk, decide_false, ih ks (i + 1) h.2]
            have hi : (a :: ks).idxOf k = ks.idxOf k + 1 := idxOf_cons_ne ks fun e => hk e.symm
            simp only [List.mem_cons, hk, false_or, hi, List.getD_cons_succ]
            congr 1
            split
            · congr 2; omega
            · rfl
    have h2 := key es ks 0 h
    simp only [Nat.zero_add] at h2
    simp only [Instr.findKey, Sem.run_bind, run_underlying hd, Result.andThen_ok, h2, Sem.run_pure], same⟩

/-- Block mb is the map of the list l, in the order in which the keys came. -/
def MapIs (enc : κ → Value) (w : World) (mb : Nat) (l : List (κ × Value)) : Prop :=
  ∃ es clock, w.heap[mb]? = some (.map es clock) ∧ es.toList.map (fun e => (e.key, e.val)) = l.map (fun p => (enc p.1, p.2)) ∧ es.toList.map (·.born) = List.range clock

theorem MapIs.keys {w : World} {l : List (κ × Value)} {es : Array MapEntry} (h : es.toList.map (fun e => (e.key, e.val)) = l.map (fun p => (enc p.1, p.2))) : es.toList.map (·.key) = (l.map (·.1)).map enc := by
  have := congrArg (List.map Prod.fst) h
  simpa [Function.comp_def] using this
theorem MapIs.vals {w : World} {l : List (κ × Value)} {es : Array MapEntry} (h : es.toList.map (fun e => (e.key, e.val)) = l.map (fun p => (enc p.1, p.2))) : es.toList.map (·.val) = l.map (·.2) := by
  have := congrArg (List.map Prod.snd) h
  simpa [Function.comp_def] using this
theorem MapIs.of_block {w w' : World} {mb : Nat} {l : List (κ × Value)} (h : MapIs enc w mb l) (hb : w'.heap[mb]? = w.heap[mb]?) : MapIs enc w' mb l := by
  obtain ⟨es, clock, h1, h2⟩ := h
  exact ⟨es, clock, hb.trans h1, h2⟩
theorem MapIs.lt {w : World} {mb : Nat} {l : List (κ × Value)} (h : MapIs enc w mb l) : mb < w.heap.size := by
  obtain ⟨es, clock, h1, _⟩ := h
  exact lt_of_block h1
theorem MapIs.new (w : World) : MapIs enc (w.alloc (.map #[] 0)) w.heap.size [] := ⟨#[], 0, heap_alloc_new w _, rfl, rfl⟩

/-- What the map holds at a key. -/
def lookL (l : List (κ × Value)) (k : κ) : Option Value := (l.find? fun p => decide (p.1 = k)).map (·.2)
theorem lookL_idx (l : List (κ × Value)) (k : κ) (h : k ∈ l.map (·.1)) : lookL l k = some ((l.map (·.2)).getD ((l.map (·.1)).idxOf k) default) := by
  induction l with
  | nil => simp at h
  | cons p l ih =>
    unfold lookL
    by_cases hp : p.1 = k
    · subst hp; simp
    · have h' : k ∈ l.map (·.1) := by
        simp only [List.map_cons, List.mem_cons] at h
        exact h.resolve_left (fun e => hp e.symm)
      have := ih h'
      unfold lookL at this
      rw [List.find?_cons, decide_eq_false hp]
      rw [this, List.map_cons, List.map_cons, idxOf_cons_ne _ hp, List.getD_cons_succ]
theorem lookL_none (l : List (κ × Value)) (k : κ) (h : k ∉ l.map (·.1)) : lookL l k = none := by
  unfold lookL
  rw [List.find?_eq_none.2]
  · rfl
  · intro p hp
    simp only [decide_eq_true_eq]
    intro e
    exact h (e ▸ List.mem_map_of_mem hp)

theorem run_lookup_is (HK : KeyT P K enc) {T E : TypeId} (hT : P.underlying T = some (.map K E)) {z : Value} {w : World} (hz : (zeroValue E).run P w = .ok z w) {mb : Nat} {l : List (κ × Value)} (h : MapIs enc w mb l) (k : κ) (ok : Bool) :
    (Instr.lookup T (.map (some mb)) (enc k) ok).run P w = .ok (if ok then .tuple #[(lookL l k).getD z, .bool (lookL l k).isSome] else (lookL l k).getD z) w := by
  obtain ⟨es, clock, h1, h2, h3⟩ := h
  have hf := HK.find w k es.toList (l.map (·.1)) (MapIs.keys (w := w) h2)
  have hv := MapIs.vals (w := w) h2
  have hg : ∀ es' : Array MapEntry, (getObj mb).run P w = .ok (.map es clock) w := fun _ => by simp [getObj, Sem.run, h1]
  simp only [Instr.lookup, Sem.run_bind, run_underlying hT, Result.andThen_ok, hg es, Sem.run_pure, HK.check, hf]
  by_cases hk : k ∈ l.map (·.1)
  · have hd : (es.toList.getD ((l.map (·.1)).idxOf k) default).val = (l.map (·.2)).getD ((l.map (·.1)).idxOf k) default := by
      rw [← hv]
      simp only [List.getD, List.getElem?_map]
      cases hh : es.toList[(l.map (·.1)).idxOf k]? with
      | none =>
        exfalso
        have hl : es.toList.length = l.length := by have := congrArg List.length h2; simpa using this
        rw [List.getElem?_eq_none_iff] at hh
        have := List.idxOf_lt_length_of_mem hk
        rw [List.length_map] at this
        omega
      | some e => rfl
    rw [lookL_idx l k hk]
    simp only [hk, if_true, hd]
    cases ok <;> simp
  · rw [lookL_none l k hk]
    simp only [hk, if_false, Sem.run_bind, hz, Result.andThen_ok]
    cases ok <;> simp

/-- The map with a key set. -/
def putL (l : List (κ × Value)) (k : κ) (v : Value) : List (κ × Value) := if k ∈ l.map (·.1) then l.map (fun p => if p.1 = k then (p.1, v) else p) else l ++ [(k, v)]
theorem run_update_new (HK : KeyT P K enc) {T E : TypeId} (hT : P.underlying T = some (.map K E)) {w : World} {mb : Nat} {l : List (κ × Value)} (h : MapIs enc w mb l) (k : κ) (v : Value) (hk : k ∉ l.map (·.1)) :
    ∃ w', (Instr.mapUpdate T (.map (some mb)) (enc k) v).run P w = .ok () w' ∧ MapIs enc w' mb (l ++ [(k, v)]) ∧ w.grownBy w' (some mb) ∧ w'.heap.size = w.heap.size := by
  obtain ⟨es, clock, h1, h2, h3⟩ := h
  have hf := HK.find w k es.toList (l.map (·.1)) (MapIs.keys (w := w) h2)
  have hg : (getObj mb).run P w = .ok (.map es clock) w := by simp [getObj, Sem.run, h1]
  have hl := lt_of_block h1
  refine ⟨{ w with heap := w.heap.setIfInBounds mb (.map (es.push { key := enc k, val := v, born := clock }) (clock + 1)) }, ?_, ⟨_, _, by simp [hl]; exact ⟨rfl, rfl⟩, ?_, ?_⟩, ⟨rfl, rfl, rfl, by simp, fun i _ hi => ?_⟩, by simp⟩
  · simp only [Instr.mapUpdate, Sem.run_bind, run_underlying hT, Result.andThen_ok, hg, HK.check, hf, hk, if_false]
    simp [setObj, Sem.run, h1]
  · rw [Array.toList_push, List.map_append, List.map_append, h2]; rfl
  · rw [Array.toList_push, List.map_append, h3, List.range_succ]; rfl
  · have : mb ≠ i := fun e => hi (by rw [e])
    simp [this]
end
end Go.Proofs.Ytcmhginhfhiolaa
set_option linter.unusedVariables false
set_option linter.unusedSimpArgs false
namespace Go.Proofs.Ytcmhginhfhiolaa
open Go.RowKit

/-- All numbers are from 0 to n - 1. -/
def belowB (n : Int) (xs : List Int) : Bool := allN xs.length fun j => decide (0 ≤ xs.getD j 0) && decide (xs.getD j 0 < n)
structure Mly where
  ins : Int
  outs : Int
  start : Int
  out : List (List Int)
  next : List (List Int)
def rowB (n most : Int) (l : List Int) : Bool := decide ((l.length : Int) = n) && belowB most l
def rowsB (n most : Int) (l : List (List Int)) : Bool := allN l.length fun j => rowB n most (l.getD j [])
def mealyB (m : Mly) : Bool :=
  decide (1 ≤ m.ins) && decide (m.ins ≤ 64) && decide (1 ≤ m.outs) && decide (m.outs ≤ 64) && decide (m.out.length ≤ 3000) && decide (0 ≤ m.start) && decide (m.start < m.out.length) &&
    decide (m.next.length = m.out.length) && rowsB m.ins m.outs m.out && rowsB m.ins m.out.length m.next
theorem getD_snoc {α : Type} (l : List α) (x d : α) (j : Nat) : (l ++ [x]).getD j d = if j < l.length then l.getD j d else if j = l.length then x else d := by
  simp only [List.getD, List.getElem?_append]
  split
  · rfl
  · split
    · rename_i h h2; subst h2; simp
    · rename_i h h2
      rw [List.getElem?_eq_none (by simp; omega)]; rfl
/-- The value v is the controller m. -/
def RdM (w : World) (D : Dom) (v : Value) (m : Mly) : Prop :=
  ∃ Ao co An cn, v = .agg #[.int .i64 m.ins, .int .i64 m.outs, .int .i64 m.start, .slice Ao m.out.length co, .slice An m.next.length cn] ∧
    RdII w D Ao co m.out ∧ RdII w D An cn m.next
section
variable {D E : Dom} {w w' : World} {v : Value} {m : Mly}
theorem RdM.old (h : RdM w D v m) : RdM w (· < w.heap.size) v m :=
  let ⟨Ao, co, An, cn, e, h1, h2⟩ := h
  ⟨Ao, co, An, cn, e, h1.old, h2.old⟩
theorem RdM.keep (h : RdM w D v m) (hk : Keeps D w w') : RdM w' D v m :=
  let ⟨Ao, co, An, cn, e, h1, h2⟩ := h
  ⟨Ao, co, An, cn, e, h1.keep hk, h2.keep hk⟩
theorem RdM.mono (h : RdM w D v m) (hE : ∀ b, D b → b < w.heap.size → E b) : RdM w E v m :=
  let ⟨Ao, co, An, cn, e, h1, h2⟩ := h
  ⟨Ao, co, An, cn, e, h1.mono hE, h2.mono hE⟩
end
/-- The sizes of a controller that is compiled. -/
structure Sized (m : Mly) : Prop where
  i1 : 1 ≤ m.ins
  i2 : m.ins ≤ 64
  o1 : 1 ≤ m.outs
  o2 : m.outs ≤ 64
  n1 : 1 ≤ m.out.length
  n2 : m.out.length ≤ 3000
  s0 : 0 ≤ m.start
  s1 : m.start < m.out.length
  nn : m.next.length = m.out.length
  outr : ∀ q x : Nat, q < m.out.length → x < m.ins → (m.out.getD q []).length = m.ins ∧ 0 ≤ (m.out.getD q []).getD x 0 ∧ (m.out.getD q []).getD x 0 < m.outs
  nextr : ∀ q x : Nat, q < m.out.length → x < m.ins → (m.next.getD q []).length = m.ins ∧ 0 ≤ (m.next.getD q []).getD x 0 ∧ (m.next.getD q []).getD x 0 < m.out.length
theorem row_of {n most : Int} {l : List Int} (h : rowB n most l = true) {x : Nat} (hx : x < n) : (l.length : Int) = n ∧ 0 ≤ l.getD x 0 ∧ l.getD x 0 < most := by
  unfold rowB belowB at h
  rw [Bool.and_eq_true, decide_eq_true_eq] at h
  have := allN_true.1 h.2 x (by omega)
  rw [Bool.and_eq_true, decide_eq_true_eq, decide_eq_true_eq] at this
  exact ⟨h.1, this.1, this.2⟩
theorem sized_of {m : Mly} (h : mealyB m = true) : Sized m := by
  simp only [mealyB, Bool.and_eq_true, decide_eq_true_eq] at h
  obtain ⟨⟨⟨⟨⟨⟨⟨⟨⟨h1, h2⟩, h3⟩, h4⟩, h5⟩, h6⟩, h7⟩, h8⟩, h9⟩, h10⟩ := h
  exact ⟨h1, h2, h3, h4, by omega, h5, h6, h7, h8, fun q x hq hx => row_of (allN_true.1 h9 q hq) hx, fun q x hq hx => row_of (allN_true.1 h10 q (by omega)) hx⟩
/-- The state before input number k; the outputs of the first k inputs. -/
def mSt (m : Mly) (s : Int) (ins : List Int) : Nat → Int
  | 0 => s
  | k + 1 => (m.next.getD (mSt m s ins k).toNat []).getD (ins.getD k 0).toNat 0
def mOuts (m : Mly) (s : Int) (ins : List Int) : Nat → List Int
  | 0 => []
  | k + 1 => mOuts m s ins k ++ [(m.out.getD (mSt m s ins k).toNat []).getD (ins.getD k 0).toNat 0]
theorem mOuts_len (m : Mly) (s : Int) (ins : List Int) : ∀ k, (mOuts m s ins k).length = k
  | 0 => rfl
  | k + 1 => by simp [mOuts, mOuts_len m s ins k]
theorem mSt_range {m : Mly} (h : Sized m) {s : Int} {ins : List Int} (s0 : 0 ≤ s) (s1 : s < m.out.length) (hi : ∀ j, j < ins.length → 0 ≤ ins.getD j 0 ∧ ins.getD j 0 < m.ins) : ∀ k, k ≤ ins.length → 0 ≤ mSt m s ins k ∧ mSt m s ins k < m.out.length
  | 0, _ => ⟨s0, s1⟩
  | k + 1, hk => by
    have ih := mSt_range h s0 s1 hi k (by omega)
    have hx := hi k (by omega)
    have := h.nextr (mSt m s ins k).toNat (ins.getD k 0).toNat (by omega) (by omega)
    exact ⟨this.2.1, this.2.2⟩
theorem int_info : (Try.prog.info? 3).map (fun i => (i.zero, i.size, i.bytes)) = some (some (.int .i64 0), 1, 8) := by kernel_rfl
end Go.Proofs.Ytcmhginhfhiolaa
set_option linter.unusedVariables false
set_option linter.unusedSimpArgs false
namespace Go.Proofs.Ytcmhginhfhiolaa
open Go.RowKit
attribute [local go_sem] cell_alloc_old

set_option maxHeartbeats 400000 in
theorem within_any (x n : Int) (w : World) :
    Calls Try.prog 50 #[.int .i64 x, .int .i64 n] w fun e w' => e = .returned (.bool (decide (0 ≤ x) && decide (x < n))) ∧ w' = w := by
  go_enter Try.func50, Try.ntmps50
  go_wp2
  all_goals (go_ret; exact ⟨ret_bool (by simp; try omega), rfl⟩)
set_option maxHeartbeats 400000 in
theorem row_any {D : Dom} (A : Option Addr) (c : Nat) (l : List Int) (n most : Int) (w : World) (h : RdI w D A c l) :
    Calls Try.prog 51 #[.slice A l.length c, .int .i64 n, .int .i64 most] w fun e w' => e = .returned (.bool (rowB n most l)) ∧ w' = w := by
  have hm := h.len.1
  have HR := hid h
  clear h
  by_cases hn : (l.length : Int) = n
  · subst hn
    go_enter Try.func51, Try.ntmps51
    go_wp2
    go_loop [7] (fun t => ∃ k : Nat, k ≤ l.length ∧ t = .int .i64 k ∧ SoFar k (fun j => decide (0 ≤ l.getD j 0) && decide (l.getD j 0 < most))) (fun t => l.length - (intOf t).toNat)
    case atStart => exact ⟨0, Nat.zero_le _, rfl, SoFar.zero _⟩
    case round =>
      obtain ⟨k, hk, rfl, hb⟩ := hrel
      have HB := hid hb
      clear hb
      by_cases hlt : k < l.length
      · obtain ⟨b, o, x, rfl, _, _, HX, hc⟩ := HR.out.get hlt
        by_cases hx : (decide (0 ≤ x) && decide (x < most)) = true
        · have hx' := hid hx
          clear hx
          go_wp2_with (go_at_call 50; refine (within_any x most _).mono ?_; rintro e w' ⟨rfl, rfl⟩; rw [hx'.out])
          go_round
          case rel => exact ⟨k + 1, by omega, by go_num, HB.out.succ (by rw [HX.out]; exact hx'.out)⟩
          case measure => simp [intOf]; omega
        · have hx' := hid (Bool.eq_false_iff.2 hx)
          clear hx
          go_wp2_with (go_at_call 50; refine (within_any x most _).mono ?_; rintro e w' ⟨rfl, rfl⟩; rw [hx'.out])
          go_ret
          exact ⟨ret_bool (by unfold rowB belowB; rw [allN_false hlt (by rw [HX.out]; exact hx'.out)]; simp), rfl⟩
      · go_wp2
        go_ret
        exact ⟨ret_bool (by unfold rowB belowB; rw [HB.out.all (by omega)]; simp), rfl⟩
  · have hne : ((l.length : Int) != n) = true := by simp [hn]
    have HN := hid hn
    clear hn
    go_enter Try.func51, Try.ntmps51
    go_wp2
    go_ret
    exact ⟨ret_bool (by unfold rowB; simp [HN.out]), rfl⟩
set_option maxHeartbeats 800000 in
theorem rows_any {D : Dom} (n most : Int) (A : Option Addr) (c : Nat) (l : List (List Int)) (w : World) (h : RdII w D A c l) :
    Calls Try.prog 49 #[.int .i64 n, .int .i64 most, .slice A l.length c] w fun e w' => e = .returned (.bool (rowsB n most l)) ∧ w' = w := by
  have hm := h.len.1
  have HR := hid h
  clear h
  go_enter Try.func49, Try.ntmps49
  go_wp2
  go_loop [6, 13] (fun r t => ∃ k : Nat, k ≤ l.length ∧ t = .int .i64 k ∧ r = .bool false ∧ SoFar k (fun j => rowB n most (l.getD j []))) (fun _ t => l.length - (intOf t).toNat)
  case atStart => exact ⟨0, Nat.zero_le _, rfl, rfl, SoFar.zero _⟩
  case round =>
    obtain ⟨k, hk, rfl, rfl, hb⟩ := hrel
    have HB := hid hb
    clear hb
    by_cases hlt : k < l.length
    · obtain ⟨b, o, A', c', r, rfl, _, _, HX, hr, hc⟩ := HR.out.get hlt
      have hmr := hr.len.1
      have HRR := hid hr
      clear hr
      by_cases hn : (r.length : Int) = n
      · have hne : ((r.length : Int) != n) = false := by simp [hn]
        have HN := hid hn
        clear hn
        go_wp2
        go_loop [6, 23] (fun z t => ∃ i : Nat, i ≤ r.length ∧ t = .int .i64 i ∧ z = .bool false ∧ SoFar i (fun j => decide (0 ≤ r.getD j 0) && decide (r.getD j 0 < most))) (fun _ t => r.length - (intOf t).toNat)
        case atStart => exact ⟨0, Nat.zero_le _, rfl, rfl, SoFar.zero _⟩
        case round =>
          obtain ⟨i, hi, rfl, rfl, hb2⟩ := hrel
          have HB2 := hid hb2
          clear hb2
          by_cases hlt2 : i < r.length
          · obtain ⟨b2, o2, x, rfl, _, _, HY, hc2⟩ := HRR.out.get hlt2
            go_wp2
            · go_ret
              exact ⟨ret_bool (by unfold rowsB; rw [allN_false hlt]; rw [HX.out]; unfold rowB belowB; rw [allN_false hlt2 (by rw [HY.out]; simp; omega)]; simp), rfl⟩
            · go_round
              case rel => exact ⟨i + 1, by omega, by go_num, rfl, HB2.out.succ (by rw [HY.out]; simp; omega)⟩
              case measure => simp [intOf]; omega
            · go_ret
              exact ⟨ret_bool (by unfold rowsB; rw [allN_false hlt]; rw [HX.out]; unfold rowB belowB; rw [allN_false hlt2 (by rw [HY.out]; simp; omega)]; simp), rfl⟩
          · go_wp2
            go_round
            case rel => exact ⟨k + 1, by omega, by go_num, rfl, HB.out.succ (by rw [HX.out]; unfold rowB belowB; rw [HB2.out.all (by omega)]; simp [HN.out])⟩
            case measure => simp [intOf]; omega
      · have hne : ((r.length : Int) != n) = true := by simp [hn]
        have HN := hid hn
        clear hn
        go_wp2
        go_ret
        exact ⟨ret_bool (by unfold rowsB; rw [allN_false hlt]; rw [HX.out]; unfold rowB; simp [HN.out]), rfl⟩
    · go_wp2
      go_ret
      exact ⟨ret_bool (by unfold rowsB; rw [HB.out.all (by omega)]), rfl⟩
set_option maxHeartbeats 400000 in
theorem sizes_any (ins outs states start : Int) (w : World) :
    Calls Try.prog 52 #[.int .i64 ins, .int .i64 outs, .int .i64 states, .int .i64 start] w fun e w' =>
      e = .returned (.bool (decide (1 ≤ ins) && decide (ins ≤ 64) && decide (1 ≤ outs) && decide (outs ≤ 64) && decide (states ≤ 3000) && decide (0 ≤ start) && decide (start < states))) ∧ w' = w := by
  go_enter Try.func52, Try.ntmps52
  go_wp2
  all_goals (go_ret; exact ⟨ret_bool (by rw [Bool.eq_iff_iff]; simp only [Bool.and_eq_true, decide_eq_true_eq, Bool.false_eq_true, false_iff]; omega), rfl⟩)
set_option maxHeartbeats 400000 in
theorem ints_any {D E : Dom} (A B : Option Addr) (c d : Nat) (xs ys : List Int) (w : World) (hx : RdI w D A c xs) (hy : RdI w E B d ys) :
    Calls Try.prog 25 #[.slice A xs.length c, .slice B ys.length d] w fun e w' => e = .returned (.bool (decide (xs = ys))) ∧ Drawn w w' := by
  have hm := hx.len.1
  have HXS := hid hx
  have HYS := hid hy
  clear hx hy
  by_cases hn : xs.length = ys.length
  · have hne : ((xs.length : Int) != (ys.length : Int)) = false := by simp [hn]
    have HN := hid hn
    have hle : ys.length ≤ xs.length := by omega
    clear hn
    go_enter Try.func25, Try.ntmps25
    go_wp2
    go_loopw [5] (fun t wr => ∃ k : Nat, k ≤ xs.length ∧ t = .int .i64 k ∧ SoFar k (fun j => decide (xs.getD j 0 = ys.getD j 0)) ∧ Drawn w wr) (fun t _ => xs.length - (intOf t).toNat)
    case atStart => exact ⟨0, Nat.zero_le _, rfl, SoFar.zero _, Drawn.refl w⟩
    case round =>
      obtain ⟨k, hk, rfl, hb, hd⟩ := hrel
      have HB := hid hb
      clear hb
      by_cases hlt : k < xs.length
      · have hlt2 : k < ys.length := by have := HN.out; omega
        obtain ⟨b, o, x, rfl, _, _, HX, hc⟩ := (HXS.out.keep hd.keeps).get hlt
        obtain ⟨b', o', y, rfl, _, _, HY, hc'⟩ := (HYS.out.keep hd.keeps).get hlt2
        go_wp2
        go_quiet (fail)
        by_cases he : x = y
        · have hne : (x != y) = false := by simp [he]
          have HE := hid he
          clear he
          go_wp2
          go_roundw
          case rel => exact ⟨k + 1, by omega, by go_num, HB.out.succ (by rw [HX.out, HY.out]; simp [HE.out]), hd.drewN _⟩
          case measure => simp [intOf]; omega
        · have hne : (x != y) = true := by simp [he]
          have HE := hid he
          clear he
          go_wp2
          go_ret
          refine ⟨ret_bool ?_, hd.drewN _⟩
          refine (decide_eq_false fun h => HE.out ?_).symm
          rw [← HX.out, ← HY.out, h]
      · go_wp2
        go_ret
        refine ⟨ret_bool ?_, hd⟩
        refine (decide_eq_true ?_).symm
        refine List.ext_getElem HN.out fun j h1 h2 => ?_
        have := HB.out j (by omega)
        simpa [List.getD, h1, h2] using this
  · have hne : ((xs.length : Int) != (ys.length : Int)) = true := bne_iff_ne.2 (by omega)
    have HN := hid hn
    clear hn
    go_enter Try.func25, Try.ntmps25
    go_wp2
    go_ret
    exact ⟨ret_bool (decide_eq_false fun h => HN.out (by rw [h])).symm, Drawn.refl w⟩
set_option maxHeartbeats 2000000 in
theorem mvalid_any {D : Dom} (v : Value) (m : Mly) (w : World) (h : RdM w D v m) :
    Calls Try.prog 31 #[v] w fun e w' => e = .returned (.bool (mealyB m)) ∧ Below w.heap.size w w' := by
  obtain ⟨Ao, co, An, cn, rfl, ho, hn⟩ := h
  have HO := hid ho
  have HN := hid hn
  have hlo := ho.len.1
  have hln := hn.len.1
  clear ho hn
  by_cases hs : (decide (1 ≤ m.ins) && decide (m.ins ≤ 64) && decide (1 ≤ m.outs) && decide (m.outs ≤ 64) && decide ((m.out.length : Int) ≤ 3000) && decide (0 ≤ m.start) && decide (m.start < (m.out.length : Int))) = true
  · have HS := hid hs
    clear hs
    by_cases he : m.next.length = m.out.length
    · have heq : ((m.next.length : Int) == (m.out.length : Int)) = true := beq_iff_eq.2 (by omega)
      have HE := hid he
      clear he
      by_cases hr : rowsB m.ins m.outs m.out = true
      · have HR := hid hr
        clear hr
        go_enter Try.func31, Try.ntmps31
        go_wp2_with fail
        refine (sizes_any _ _ _ _ _).mono ?_
        rintro e w1 ⟨rfl, rfl⟩
        rw [HS.out]
        go_wp2_with fail
        refine (rows_any _ _ _ _ m.out _ (HO.out.keep ((Keeps.refl _ w).alloc _))).mono ?_
        rintro e w1 ⟨rfl, rfl⟩
        rw [HR.out]
        go_wp2_with fail
        refine (rows_any _ _ _ _ m.next _ (HN.out.keep ((Keeps.refl _ w).alloc _))).mono ?_
        rintro e w1 ⟨rfl, rfl⟩
        go_wp2_with fail
        go_ret
        refine ⟨ret_bool ?_, by go_grown⟩
        have h1 := HS.out
        unfold mealyB
        rw [HR.out, HE.out]
        simp only [Bool.and_eq_true, decide_eq_true_eq] at h1 ⊢
        rw [Bool.eq_iff_iff]
        simp only [Bool.and_eq_true, decide_eq_true_eq]
        constructor
        · intro h; exact ⟨⟨⟨by omega, trivial⟩, trivial⟩, h⟩
        · intro h; exact h.2
      · have HR := hid (Bool.eq_false_iff.2 hr)
        clear hr
        go_enter Try.func31, Try.ntmps31
        go_wp2_with fail
        refine (sizes_any _ _ _ _ _).mono ?_
        rintro e w1 ⟨rfl, rfl⟩
        rw [HS.out]
        go_wp2_with fail
        refine (rows_any _ _ _ _ m.out _ (HO.out.keep ((Keeps.refl _ w).alloc _))).mono ?_
        rintro e w1 ⟨rfl, rfl⟩
        rw [HR.out]
        go_wp2_with fail
        go_ret
        exact ⟨ret_bool (by unfold mealyB; rw [HR.out]; simp), by go_grown⟩
    · have heq : ((m.next.length : Int) == (m.out.length : Int)) = false := beq_eq_false_iff_ne.2 (by omega)
      have HE := hid he
      clear he
      go_enter Try.func31, Try.ntmps31
      go_wp2_with fail
      refine (sizes_any _ _ _ _ _).mono ?_
      rintro e w1 ⟨rfl, rfl⟩
      rw [HS.out]
      go_wp2_with fail
      go_ret
      exact ⟨ret_bool (by unfold mealyB; rw [decide_eq_false HE.out]; simp), by go_grown⟩
  · have HS := hid (Bool.eq_false_iff.2 hs)
    clear hs
    go_enter Try.func31, Try.ntmps31
    go_wp2_with fail
    refine (sizes_any _ _ _ _ _).mono ?_
    rintro e w1 ⟨rfl, rfl⟩
    rw [HS.out]
    go_wp2_with fail
    go_ret
    refine ⟨ret_bool ?_, by go_grown⟩
    have h1 := HS.out
    symm
    unfold mealyB
    simp only [Bool.and_eq_false_iff, decide_eq_false_iff_not] at h1 ⊢
    omega
set_option maxHeartbeats 4000000 in
theorem rmvalid_any {D : Dom} (v : Value) (m : Mly) (w : World) (h : RdM w D v m) :
    Calls Try.prog 27 #[v] w fun e w' => e = .returned (.bool (mealyB m)) ∧ Below w.heap.size w w' := by
  obtain ⟨Ao, co, An, cn, rfl, ho, hn⟩ := h
  have HO := hid ho
  have HN := hid hn
  have hlo := ho.len.1
  have hln := hn.len.1
  clear ho hn
  by_cases hs : 1 ≤ m.ins ∧ m.ins ≤ 64 ∧ 1 ≤ m.outs ∧ m.outs ≤ 64 ∧ 1 ≤ m.next.length ∧ m.next.length ≤ 3000 ∧ m.out.length = m.next.length
  · obtain ⟨h1, h2, h3, h4, h5, h6, h7⟩ := hs
    have heq : ((m.out.length : Int) != (m.next.length : Int)) = false := by rw [bne_eq_false_iff_eq]; omega
    have HE := hid h7
    clear h7
    by_cases hst : (decide (0 ≤ m.start) && decide (m.start < (m.next.length : Int))) = true
    · have HS := hid hst
      clear hst
      go_enter Try.func27, Try.ntmps27
      go_wp2_with fail
      refine (within_any _ _ _).mono ?_
      rintro e w1 ⟨rfl, rfl⟩
      rw [HS.out]
      go_wp2_with fail
      obtain ⟨W, hW⟩ : ∃ W, W = w.alloc (.cells #[.int .i64 m.ins, .int .i64 m.outs, .int .i64 m.start, .slice Ao m.out.length co, .slice An m.next.length cn] 24) := ⟨_, rfl⟩
      rw [← hW]
      have hbx : Box W w.heap.size #[.int .i64 m.ins, .int .i64 m.outs, .int .i64 m.start, .slice Ao m.out.length co, .slice An m.next.length cn] := by rw [hW]; exact Box.new _ _ _ rfl
      have hbW : Below w.heap.size w W := by rw [hW]; go_grown
      have hO := HO.out.keep (show Keeps D w W by rw [hW]; exact (Keeps.refl _ _).alloc _)
      have hN := HN.out.keep (show Keeps D w W by rw [hW]; exact (Keeps.refl _ _).alloc _)
      have HBX := hid hbx
      have HBW := hid hbW
      have HO2 := hid hO
      have HN2 := hid hN
      clear hW hbx hbW hO hN
      go_loopw [4] (fun t wr => ∃ k : Nat, k ≤ m.next.length ∧ t = .int .i64 k ∧ SoFar k (fun j => rowB m.ins m.outs (m.out.getD j []) && rowB m.ins m.next.length (m.next.getD j [])) ∧ Drawn W wr) (fun t _ => m.next.length - (intOf t).toNat)
      case atStart => exact ⟨0, Nat.zero_le _, rfl, SoFar.zero _, Drawn.refl _⟩
      case round =>
        obtain ⟨k, hk, rfl, hso, hd⟩ := hrel
        have HSO := hid hso
        have hbx := HBX.out.below (hd.below W.heap.size) (Nat.le_refl _)
        have x0 := hbx 0 _ rfl
        have x1 := hbx 1 _ rfl
        have x2 := hbx 2 _ rfl
        have x3 := hbx 3 _ rfl
        have x4 := hbx 4 _ rfl
        clear hso hbx
        by_cases hlt : k < m.next.length
        · obtain ⟨b, o, A1, c1, r1, rfl, _, had, HX, hr1, hc⟩ := (HO2.out.keep hd.keeps).get (k := k) (by rw [HE.out]; exact hlt)
          obtain ⟨b2, o2, A2, c2, r2, rfl, _, had2, HX2, hr2, hc2⟩ := (HN2.out.keep hd.keeps).get hlt
          have hi1 : (k : Int) < m.next.length := by omega
          have hi2 : (k : Int) < m.out.length := by have := HE.out; omega
          have R1 : Hid (∀ n, Calls Try.prog 51 #[.slice A1 r1.length c1, .int .i64 m.ins, .int .i64 m.outs] (wr.drewN n) fun e w' => e = .returned (.bool (rowB m.ins m.outs r1)) ∧ w' = wr.drewN n) := hid fun n => row_any _ _ _ _ _ _ (hr1.keep (Drawn.n _ _).keeps)
          have R2 : Hid (∀ n, Calls Try.prog 51 #[.slice A2 r2.length c2, .int .i64 m.ins, .int .i64 m.next.length] (wr.drewN n) fun e w' => e = .returned (.bool (rowB m.ins m.next.length r2)) ∧ w' = wr.drewN n) := hid fun n => row_any _ _ _ _ _ _ (hr2.keep (Drawn.n _ _).keeps)
          clear hr1 hr2
          obtain ⟨p1, hp1⟩ : ∃ p, p = rowB m.ins m.outs r1 := ⟨_, rfl⟩
          obtain ⟨p2, hp2⟩ : ∃ p, p = rowB m.ins m.next.length r2 := ⟨_, rfl⟩
          rw [← hp1] at R1
          rw [← hp2] at R2
          have HP1 := hid hp1
          have HP2 := hid hp2
          clear hp1 hp2
          have hfalse : (p1 && p2) = false → Hid (mealyB m = false) := fun h => hid (by
            have hh : (rowB m.ins m.outs (m.out.getD k []) && rowB m.ins m.next.length (m.next.getD k [])) = false := by rw [HX.out, HX2.out, ← HP1.out, ← HP2.out]; exact h
            unfold mealyB rowsB
            rcases Bool.and_eq_false_iff.1 hh with h1 | h1
            · rw [allN_false (n := m.out.length) (j := k) (by rw [HE.out]; exact hlt) h1]; simp
            · rw [allN_false (n := m.next.length) (j := k) (p := fun j => rowB m.ins m.out.length (m.next.getD j [])) hlt (by rw [HE.out]; exact h1)]; simp)
          cases p1
          · have HF := hfalse rfl
            clear hfalse
            go_wp2_with fail
            go_quiet ((go_at_call 51; with_reducible exact Calls.quiet_of_same (R1.out _)))
            go_wp2_with fail
            go_ret
            exact ⟨ret_bool HF.out.symm, below_drewN (HBW.out.trans (hd.below _)) _⟩
          · cases p2
            · have HF := hfalse rfl
              clear hfalse
              go_wp2_with fail
              go_quiet ((go_at_call 51; first | with_reducible exact Calls.quiet_of_same (R1.out _) | with_reducible exact Calls.quiet_of_same (R2.out _)))
              go_wp2_with fail
              go_ret
              exact ⟨ret_bool HF.out.symm, below_drewN (HBW.out.trans (hd.below _)) _⟩
            · clear hfalse
              go_wp2_with fail
              go_quiet ((go_at_call 51; first | with_reducible exact Calls.quiet_of_same (R1.out _) | with_reducible exact Calls.quiet_of_same (R2.out _)))
              go_wp2_with fail
              go_roundw
              case rel => exact ⟨k + 1, by omega, by go_num, HSO.out.succ (by rw [HX.out, HX2.out, ← HP1.out, ← HP2.out]; rfl), hd.drewN _⟩
              case measure => simp [intOf]; omega
        · go_wp2_with fail
          go_ret
          refine ⟨ret_bool ?_, HBW.out.trans (hd.below _)⟩
          have hs := HS.out
          have hall : ∀ j, j < m.next.length → (rowB m.ins m.outs (m.out.getD j []) && rowB m.ins m.next.length (m.next.getD j [])) = true := fun j hj => HSO.out j (by omega)
          unfold mealyB rowsB
          rw [HE.out, allN_of (fun j hj => (Bool.and_eq_true _ _ ▸ hall j hj).1), allN_of (fun j hj => (Bool.and_eq_true _ _ ▸ hall j hj).2)]
          simp only [Bool.and_eq_true, decide_eq_true_eq] at hs
          symm
          simp only [Bool.and_eq_true, decide_eq_true_eq]
          exact ⟨⟨⟨⟨⟨⟨⟨⟨⟨h1, h2⟩, h3⟩, h4⟩, h6⟩, hs.1⟩, hs.2⟩, trivial⟩, trivial⟩, trivial⟩
    · have HS := hid (Bool.eq_false_iff.2 hst)
      clear hst
      go_enter Try.func27, Try.ntmps27
      go_wp2_with fail
      refine (within_any _ _ _).mono ?_
      rintro e w1 ⟨rfl, rfl⟩
      rw [HS.out]
      go_wp2_with fail
      go_ret
      refine ⟨ret_bool ?_, by go_grown⟩
      have h1 := HS.out
      symm
      unfold mealyB
      rw [HE.out]
      simp only [Bool.and_eq_false_iff, decide_eq_false_iff_not] at h1 ⊢
      omega
  · go_enter Try.func27, Try.ntmps27
    go_wp2_with fail
    all_goals
      go_ret
      refine ⟨ret_bool ?_, by go_grown⟩
      symm
      unfold mealyB
      simp only [Bool.and_eq_false_iff, decide_eq_false_iff_not]
      omega
theorem RdII.one {w : World} {b : Nat} {A : Option Addr} {c : Nat} {r : List Int} (hc : w.cell? ⟨b, 0, none⟩ = some (.slice A r.length c)) (h : RdI w (fun _ => True) A c r) : RdII w (fun _ => True) (some ⟨b, 0, none⟩) 1 [r] :=
  ⟨[.slice A r.length c], Rd.cell1 hc, fun i hi => by
    have : i = 0 := by simpa using hi
    subst this
    exact ⟨A, c, rfl, h⟩⟩
theorem mState {m : Mly} {ins : List Int} {k : Nat} : mSt m m.start ins (k + 1) = (m.next.getD (mSt m m.start ins k).toNat []).getD (ins.getD k 0).toNat 0 := rfl
/-- The outputs of the first k inputs are written. -/
structure MRel (m : Mly) (s : Int) (ins : List Int) (w : World) (ob k : Nat) (wr : World) : Prop where
  below : Below w.heap.size w wr
  out : ∃ ys : List Int, ys.length = ins.length ∧ ys.take k = mOuts m s ins k ∧ wr.ownsRow 0 3 1 (.slice (some ⟨ob, 0, none⟩) ins.length ins.length) ins.length (ys.map (.int .i64))
theorem MRel.next {m : Mly} {s : Int} {ins : List Int} {w wr : World} {ob k : Nat} (h : MRel m s ins w ob k wr) (hk : k < ins.length) (ho : w.heap.size ≤ ob) {y : Int} (hy : (m.out.getD (mSt m s ins k).toNat []).getD (ins.getD k 0).toNat 0 = y) :
    MRel m s ins w ob (k + 1) (wr.setCell ⟨ob, k, none⟩ (.int .i64 y)) := by
  obtain ⟨ys, h1, h2, h3⟩ := h.out
  have h5 := h3.stored k (.int .i64 y)
  refine ⟨h.below.setCell (p := ⟨ob, k, none⟩) ho _, ys.set k y, by simpa using h1, ?_, ?_⟩
  · rw [mOuts, ← h2, hy]
    have hk' : k < (ys.set k y).length := by simpa [h1] using hk
    rw [List.take_succ_eq_append_getElem hk', List.take_set_of_le (Nat.le_refl k)]
    simp
  · rw [List.map_set]; exact h5.1
set_option maxRecDepth 100000 in
set_option maxHeartbeats 4000000 in
theorem mrun_any {D E : Dom} (v : Value) (m : Mly) (s : Int) (A : Option Addr) (ca : Nat) (ins : List Int) (w : World) (h : RdM w D v m) (hins : RdI w E A ca ins) (hm : mealyB m = true) (s0 : 0 ≤ s) (s1 : s < m.out.length) (hb : belowB m.ins ins = true) (hmil : ins.length ≤ 1000000) :
    Calls Try.prog 24 #[v, .int .i64 s, .slice A ins.length ca] w fun e w' =>
      ∃ A' c', e = .returned (.tuple #[.slice A' ins.length c', .int .i64 (mSt m s ins ins.length)]) ∧ Below w.heap.size w w' ∧ RdI w' (fun b => w.heap.size ≤ b) A' c' (mOuts m s ins ins.length) := by
  obtain ⟨i0, hi, hz0, hz1, hz2⟩ := info_parts int_info
  have HV := hid h.old
  have HI := hid hins.old
  have hni := hins.len.1
  have hSz := hid (sized_of hm)
  obtain ⟨Ao, co, An, cn, rfl, ho, hn⟩ := h
  have hlo := ho.len.1
  have hln := hn.len.1
  have HO := hid ho.old
  have HN := hid hn.old
  clear ho hn hins
  have HM := hid hm
  have HB0 := hid hb
  have hin : Hid (∀ j, j < ins.length → 0 ≤ ins.getD j 0 ∧ ins.getD j 0 < m.ins) := hid fun j hj => by
    have := allN_true.1 hb j hj
    simpa only [Bool.and_eq_true, decide_eq_true_eq] using this
  have hnn := hSz.out.nn
  have HNN := hid hnn
  clear hm hb hnn
  have hmk := run_make_zrow (P := Try.prog) 34 3 i0 (.int .i64 0) 8 Try.underlying34 hi hz0 hz1 hz2 rfl .i64 .i64 ins.length (by omega) (by omega)
  go_enter Try.func24, Try.ntmps24
  go_wp2_with fail
  refine (mvalid_any _ m _ (HV.out.keep ((Keeps.refl _ w).alloc _))).mono ?_
  rintro e w1 ⟨rfl, hb1⟩
  rw [HM.out]
  have hbx : Box w1 w.heap.size #[.int .i64 m.ins, .int .i64 m.outs, .int .i64 m.start, .slice Ao m.out.length co, .slice An m.next.length cn] := (Box.new _ _ _ rfl).below hb1 (Nat.le_refl _)
  have HBX := hid hbx
  have hbw : Below w.heap.size w w1 := ((Below.refl _ _).alloc (Nat.le_refl _) _).trans (hb1.mono (by simp))
  have x0 := hbx 0 _ rfl
  have x1 := hbx 1 _ rfl
  have x2 := hbx 2 _ rfl
  have x3 := hbx 3 _ rfl
  have x4 := hbx 4 _ rfl
  have hw1 : w.heap.size < w1.heap.size := World.block_lt_of_cell? w1 _ x0
  have HBW := hid hbw
  clear hbx hb1 hbw
  go_wp2_with fail
  have hrow : Hid (rowsB (ins.length : Int) m.ins [ins] = true) := hid (by
    unfold rowsB
    refine allN_of fun j hj => ?_
    have : j = 0 := by simpa using hj
    subst this
    show rowB _ _ ins = true
    unfold rowB
    rw [HB0.out]; simp)
  refine (rows_any (D := fun _ => True) (ins.length : Int) m.ins _ _ [ins] _ (RdII.one (cell_new w1 _ _ _ _ _ rfl rfl) ((HI.out.keep ((Keeps.of_below HBW.out (fun _ h => h)).alloc _)).mono (fun _ _ _ => trivial)))).mono ?_
  rintro e w2 ⟨rfl, rfl⟩
  rw [hrow.out]
  go_wp2_with fail
  obtain ⟨W, hW⟩ : ∃ W, W = w1.alloc (.cells #[.slice A ins.length ca] 34) := ⟨_, rfl⟩
  have hbW : Below w.heap.size w W := by rw [hW]; exact HBW.out.alloc HBW.out.size _
  have hbxW : Box W w.heap.size #[.int .i64 m.ins, .int .i64 m.outs, .int .i64 m.start, .slice Ao m.out.length co, .slice An m.next.length cn] := by rw [hW]; exact HBX.out.alloc _
  have HWS : Hid (W.heap.size = w1.heap.size + 1) := hid (by rw [hW]; simp)
  rw [← hW]
  have HBX := hid hbxW
  have hwW : w.heap.size < w1.heap.size + 1 := by omega
  have hbW2 : w.heap.size ≤ w1.heap.size + 1 := by omega
  clear hW x0 x1 x2 x3 x4 hw1 hbxW
  go_loopw [1, 9, 10, 40] (fun q _ _ t wr => ∃ k : Nat, k ≤ ins.length ∧ t = .int .i64 k ∧ q = .int .i64 (mSt m s ins k) ∧ MRel m s ins w (w1.heap.size + 1) k wr ∧ w1.heap.size + 1 < wr.heap.size ∧
        Box wr w.heap.size #[.int .i64 m.ins, .int .i64 m.outs, .int .i64 m.start, .slice Ao m.out.length co, .slice An m.next.length cn]) (fun _ _ _ t _ => ins.length - (intOf t).toNat)
  case atStart =>
    refine ⟨0, Nat.zero_le _, rfl, rfl, ⟨hbW.alloc hbW.size _, List.replicate ins.length 0, by simp, by simp [mOuts], ?_⟩, by have := HWS.out; simp; omega, HBX.out.alloc _⟩
    rw [List.map_replicate, ← HWS.out]; exact own_zrow W 0 _ _ _ (Nat.zero_le _) (maxLen_le (by omega))
  case round =>
    obtain ⟨k, hk, rfl, rfl, hrel, hsz, hbox⟩ := hrel
    have HR := hid hrel
    have HB := hid hbox
    have x0 := hbox 0 _ rfl
    have x1 := hbox 1 _ rfl
    have x2 := hbox 2 _ rfl
    have x3 := hbox 3 _ rfl
    have x4 := hbox 4 _ rfl
    have hwr : w.heap.size < wr.heap.size := by omega
    have hrng := mSt_range hSz.out s0 s1 hin.out k hk
    obtain ⟨q, hq⟩ : ∃ q, mSt m s ins k = q := ⟨_, rfl⟩
    rw [hq] at hrng ⊢
    obtain ⟨Q, rfl⟩ : ∃ Q : Nat, q = Q := ⟨q.toNat, by omega⟩
    have HQ := hid hq
    clear hrel hbox hq
    by_cases hlt : k < ins.length
    · obtain ⟨b, o, x, rfl, _, had, HX, hc⟩ := (HI.out.keep (Keeps.of_below HR.out.below fun _ h => h)).get hlt
      obtain ⟨ys, hyl, _, hyo⟩ := HR.out.out
      have hxr := hin.out k hlt
      rw [HX.out] at hxr
      obtain ⟨X, rfl⟩ : ∃ X : Nat, x = X := ⟨x.toNat, by omega⟩
      have hQ1 : Q < m.out.length := by omega
      have hQ2 : Q < m.next.length := by rw [HNN.out]; omega
      have hQi : (Q : Int) < m.next.length := by omega
      obtain ⟨b2, o2, A2, c2, r2, rfl, _, had2, HX2, hr2, hc2⟩ := (HO.out.keep (Keeps.of_below HR.out.below fun _ h => h)).get hQ1
      obtain ⟨b3, o3, A3, c3, r3, rfl, _, had3, HX3, hr3, hc3⟩ := (HN.out.keep (Keeps.of_below HR.out.below fun _ h => h)).get hQ2
      have e2 := (hSz.out.outr Q X hQ1 hxr.2).1
      have e3 := (hSz.out.nextr Q X hQ1 hxr.2).1
      rw [HX2.out] at e2
      rw [HX3.out] at e3
      have hX2 : X < r2.length := by omega
      have hX3 : X < r3.length := by omega
      obtain ⟨b4, o4, y, rfl, _, had4, HY, hc4⟩ := hr2.get hX2
      obtain ⟨b5, o5, z, rfl, _, had5, HZ, hc5⟩ := hr3.get hX3
      have hcell : wr.cell? ⟨w1.heap.size + 1, k, none⟩ = some (.int .i64 (ys.getD k 0)) := by
        rw [hyo.cellAt k (by omega)]; simp [hyl, hlt]
      have hfro : wr.frozen? ⟨w1.heap.size + 1, k, none⟩ = false := hyo.frozenAt k
      have hQi2 : (Q : Int) < m.out.length := by omega
      have hXi2 : (X : Int) < r2.length := by omega
      have hXi3 : (X : Int) < r3.length := by omega
      have hki : (k : Int) < ins.length := by omega
      have hr2l := hr2.len.1
      have hr3l := hr3.len.1
      clear hr2 hr3 e2 e3 hyo hyl
      go_wp2_with fail
      go_roundw
      case rel =>
        have hn := HR.out.next hlt (ho := by omega) (y := y) (by rw [HQ.out, HX.out, Int.toNat_natCast, Int.toNat_natCast, HX2.out, HY.out])
        exact ⟨k + 1, by omega, by go_num, by rw [mSt, HQ.out, HX.out, Int.toNat_natCast, Int.toNat_natCast, HX3.out, HZ.out], hn, by simp; omega, HB.out.set (by simp; omega) _⟩
      case measure => simp [intOf]; omega
    · obtain rfl : k = ins.length := by omega
      obtain ⟨ys, hyl, hyt, hyo⟩ := HR.out.out
      have hys : ys = mOuts m s ins ins.length := by rw [← hyt, List.take_of_length_le (by omega)]
      rw [hys] at hyo
      have HYO := hid hyo
      clear hyl hyt hyo hys
      go_wp2_with fail
      refine bodyPost_ret (v := .tuple #[.slice (some ⟨w1.heap.size + 1, 0, none⟩) ins.length ins.length, .int .i64 (Q : Int)]) (by simp [results, Try.results24, go_sem]) rfl ?_
      refine ⟨some ⟨w1.heap.size + 1, 0, none⟩, ins.length, by rw [HQ.out], HR.out.below, ?_⟩
      have hh := HYO.out
      unfold RdI
      rw [mOuts_len]
      exact (Rd.own (base := 0) (D := fun _ => True) hh hni (fun _ _ => trivial)).2 |> fun h2 => ⟨⟨by simp [mOuts_len], hni, Nat.le_refl _, by omega⟩, fun hp => by
        obtain ⟨b, o, e1, _, e3, e4⟩ := h2 hp
        injection e1 with e1
        injection e1 with e1 e1'
        subst e1 e1'
        exact ⟨_, _, rfl, by omega, e3, e4⟩⟩
end Go.Proofs.Ytcmhginhfhiolaa
