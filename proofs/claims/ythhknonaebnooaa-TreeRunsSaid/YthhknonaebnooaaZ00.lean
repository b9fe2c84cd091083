/-
  Words for memory that all texts of this seat use: a slice that reads as a list, kept over what a call leaves alone.
  append onto a slice of the call's own, the source read by 'Rd'; the law as an operation of a plain region and of one that draws its order.
  Maps that the call itself keeps: a block of entries as a list of keys and values, for keys of any kind whose equality is known.
  Automata and trees as plain data, and as values in memory.
  Automata and trees, plain: what is well-formed, what is reached, the step of a tree as the document says it.
  Walks of the reference: In, Small, Ints, before.
  Walks of the reference: Few, Valid of automata.
-/
import Derived.Test.YthhknonaebnooaaChecked
import Derived.WalkKit
import Derived.WalkLawsBesides
import Derived.WalkSpells
import Derived.Lib.Hide
import Derived.Deep.QuietTactic
import Derived.BigQuiet
import Derived.Handy
import Derived.Deep.RegionHeld3
import Derived.Deep.RegionLaw
import Derived.Maps.AppendAt
import Derived.Deep.DeepFit
import Derived.Deep.DeepCutAuto
import Derived.Laws.AppendOwnNone
import Derived.Laws.StructEq
import Derived.IntWalk
set_option linter.unusedVariables false
set_option linter.unusedSimpArgs false
namespace Go.Proofs.Ythhknonaebnooaa
open Go.RowKit

abbrev Dom := Nat → Prop

/-- What lies in the blocks of D is in w' as it was in w. -/
structure Keeps (D : Dom) (w w' : World) : Prop where
  size : w.heap.size ≤ w'.heap.size
  block : ∀ b, D b → b < w.heap.size → w'.heap[b]? = w.heap[b]?

section
variable {D E : Dom} {w w' w'' : World}
theorem Keeps.refl (D : Dom) (w : World) : Keeps D w w := ⟨Nat.le_refl _, fun _ _ _ => rfl⟩
theorem Keeps.trans (h : Keeps D w w') (k : Keeps D w' w'') : Keeps D w w'' :=
  ⟨Nat.le_trans h.size k.size, fun b hb hl => (k.block b hb (Nat.lt_of_lt_of_le hl h.size)).trans (h.block b hb hl)⟩
theorem Keeps.alloc (h : Keeps D w w') (o : Obj) : Keeps D w (w'.alloc o) :=
  h.trans ⟨by simp, fun b _ hl => Below.heap_alloc _ _ _ hl⟩
theorem Keeps.drew (h : Keeps D w w') : Keeps D w w'.drew := ⟨h.size, h.block⟩
theorem Keeps.drewN (h : Keeps D w w') (n : Nat) : Keeps D w (w'.drewN n) := ⟨h.size, h.block⟩
theorem Keeps.set (h : Keeps D w w') {p : Addr} (hp : ¬ D p.block) (u : Value) : Keeps D w (w'.setCell p u) :=
  h.trans ⟨by simp, fun b hb _ => Below.heap_setCell _ _ _ _ (fun e => hp (e ▸ hb))⟩
theorem Keeps.below (h : Keeps D w w') (hb : Below w'.heap.size w' w'') : Keeps D w w'' :=
  h.trans ⟨hb.size, fun b _ hl => hb.block b hl⟩
theorem Keeps.belowLe {B : Nat} (h : Keeps D w w') (hb : Below B w' w'') (hB : w'.heap.size ≤ B) : Keeps D w w'' := h.below (hb.mono hB)
theorem Keeps.grown (h : Keeps D w w') {row : Option Nat} (hg : w'.grownBy w'' row) (hr : ∀ k, row = some k → ¬ D k) : Keeps D w w'' :=
  h.trans ⟨hg.size, fun b hb hl => hg.block b hl (fun e => hr b e.symm hb)⟩
theorem Keeps.mono (h : Keeps D w w') (hE : ∀ b, E b → D b) : Keeps E w w' := ⟨h.size, fun b hb hl => h.block b (hE b hb) hl⟩
theorem Keeps.of_below {B : Nat} (hb : Below B w w') (hD : ∀ b, D b → b < B) : Keeps D w w' := ⟨hb.size, fun b h _ => hb.block b (hD b h)⟩
theorem Keeps.cell (h : Keeps D w w') {b o : Nat} {u : Value} (hb : D b) (hc : w.cell? ⟨b, o, none⟩ = some u) : w'.cell? ⟨b, o, none⟩ = some u := by
  have hl : b < w.heap.size := World.block_lt_of_cell? w ⟨b, o, none⟩ hc
  rw [← hc]
  exact World.cell?_of_block (w := w) (a := ⟨b, o, none⟩) (h.block b hb hl)
end

/-- w' is w but for draws from the tape. -/
def Drawn (w w' : World) : Prop := ∃ n, w' = w.drewN n
theorem Drawn.refl (w : World) : Drawn w w := ⟨0, rfl⟩
theorem Drawn.n (w : World) (n : Nat) : Drawn w (w.drewN n) := ⟨n, rfl⟩
theorem Drawn.drewN {w w' : World} (h : Drawn w w') (n : Nat) : Drawn w (w'.drewN n) := by
  obtain ⟨m, rfl⟩ := h
  exact ⟨m + n, World.drewN_drewN w m n⟩
theorem Drawn.drew {w w' : World} (h : Drawn w w') : Drawn w w'.drew := h.drewN 1
theorem Drawn.trans {w w' w'' : World} (h : Drawn w w') (k : Drawn w' w'') : Drawn w w'' := by
  obtain ⟨m, rfl⟩ := k
  exact h.drewN m
theorem Drawn.keeps {D : Dom} {w w' : World} (h : Drawn w w') : Keeps D w w' := by
  obtain ⟨m, rfl⟩ := h
  exact (Keeps.refl D w).drewN m
theorem Drawn.below {w w' : World} (h : Drawn w w') (B : Nat) : Below B w w' := by
  obtain ⟨m, rfl⟩ := h
  exact ⟨rfl, rfl, rfl, Nat.le_refl _, fun _ _ => rfl⟩

/-- The slice value '.slice A n c' holds the cells xs, size cells each. -/
def Rd (w : World) (D : Dom) (size : Nat) (A : Option Addr) (n c : Nat) (xs : List Value) : Prop :=
  (xs.length = n * size ∧ n ≤ 140737488355328 ∧ n ≤ c ∧ c ≤ 9223372036854775807) ∧
  (0 < n → ∃ b o, A = some ⟨b, o, none⟩ ∧ D b ∧ b < w.heap.size ∧ ∀ j u, xs[j]? = some u → w.cell? ⟨b, o + j, none⟩ = some u)

section
variable {D E : Dom} {w w' : World} {size n c : Nat} {A : Option Addr} {xs : List Value}
theorem Rd.nil (w : World) (D : Dom) (size : Nat) (A : Option Addr) {c : Nat} (hc : c ≤ 9223372036854775807) : Rd w D size A 0 c [] := ⟨⟨by simp, by omega, by omega, hc⟩, fun h => absurd h (by omega)⟩
theorem Rd.keep (h : Rd w D size A n c xs) (hk : Keeps D w w') : Rd w' D size A n c xs :=
  ⟨h.1, fun hn => by
    obtain ⟨b, o, e, hb, hl, hc⟩ := h.2 hn
    exact ⟨b, o, e, hb, Nat.lt_of_lt_of_le hl hk.size, fun j u hu => hk.cell hb (hc j u hu)⟩⟩
theorem Rd.mono (h : Rd w D size A n c xs) (hE : ∀ b, D b → b < w.heap.size → E b) : Rd w E size A n c xs :=
  ⟨h.1, fun hn => by
    obtain ⟨b, o, e, hb, hl, hc⟩ := h.2 hn
    exact ⟨b, o, e, hE b hb hl, hl, hc⟩⟩
theorem Rd.old (h : Rd w D size A n c xs) : Rd w (· < w.heap.size) size A n c xs := h.mono fun _ _ hl => hl
/-- 's[k:]'. -/
theorem Rd.cut {k : Nat} (h : Rd w D size A n c xs) (hk : k ≤ n) :
    Rd w D size (if c = k then A else A.map (·.add (k * size))) (n - k) (c - k) (xs.drop (k * size)) := by
  obtain ⟨⟨h1, h2, h3, h4⟩, h5⟩ := h
  refine ⟨⟨by rw [List.length_drop, h1, Nat.sub_mul], by omega, by omega, by omega⟩, fun hn => ?_⟩
  obtain ⟨b, o, rfl, hb, hl, hcell⟩ := h5 (by omega)
  rw [if_neg (by omega)]
  refine ⟨b, o + k * size, ?_, hb, hl, fun j u hu => ?_⟩
  · unfold Addr.add
    by_cases h0 : k * size = 0 <;> simp [h0]
  · rw [Nat.add_assoc]
    exact hcell _ u (by rw [← hu, List.getElem?_drop])
/-- 's[:k]'. -/
theorem Rd.take {k : Nat} (h : Rd w D size A n c xs) (hk : k ≤ n) : Rd w D size A k c (xs.take (k * size)) := by
  obtain ⟨⟨h1, h2, h3, h4⟩, h5⟩ := h
  refine ⟨⟨by rw [List.length_take, h1]; exact Nat.min_eq_left (Nat.mul_le_mul_right _ hk), by omega, by omega, by omega⟩, fun hn => ?_⟩
  obtain ⟨b, o, rfl, hb, hl, hcell⟩ := h5 (by omega)
  exact ⟨b, o, rfl, hb, hl, fun j u hu => hcell j u (by
    rw [List.getElem?_take] at hu
    split at hu
    · exact hu
    · cases hu)⟩
theorem Rd.own {base : Nat} {e : TypeId} (h : w.ownsRow base e size (.slice A n c) n xs) (hn : n ≤ 140737488355328) (hD : ∀ g, base ≤ g → D g) : Rd w D size A n c xs := by
  rcases h.2 with ⟨hv, h0⟩ | ⟨g, cap, cur, hv, hb, hh, h1, h2, hsz, htk⟩
  · injection hv with _ _ hc
    subst h0
    subst hc
    obtain rfl : xs = [] := List.eq_nil_of_length_eq_zero (by simpa using h.1)
    exact Rd.nil w D size A (by omega)
  · have hA : A = some ⟨g, 0, none⟩ := by injection hv
    have hc : c = cap := by injection hv
    subst hA hc
    refine ⟨⟨h.1, hn, h1, h2⟩, fun hn => ⟨g, 0, rfl, hD g hb, lt_of_block hh, fun j u hu => ?_⟩⟩
    rw [← htk, List.getElem?_take] at hu
    split at hu
    · simp [World.cell?, hh]; simpa using hu
    · cases hu
end

theorem hid {p : Prop} (h : p) : Hid p := h
theorem ret_sl {A : Option Addr} {n m c : Nat} (h : n = m) : Ending.returned (.slice A n c) = .returned (.slice A m c) := by rw [h]
/-- A slice of ints. -/
def RdI (w : World) (D : Dom) (A : Option Addr) (c : Nat) (zs : List Int) : Prop := Rd w D 1 A zs.length c (zs.map (.int .i64))

section
variable {D E : Dom} {w w' : World} {A : Option Addr} {c : Nat} {zs : List Int}
theorem RdI.nil (w : World) (D : Dom) (A : Option Addr) {c : Nat} (hc : c ≤ 9223372036854775807) : RdI w D A c [] := Rd.nil w D 1 A hc
theorem RdI.len (h : RdI w D A c zs) : zs.length ≤ 140737488355328 ∧ zs.length ≤ c ∧ c ≤ 9223372036854775807 := h.1.2
theorem RdI.keep (h : RdI w D A c zs) (hk : Keeps D w w') : RdI w' D A c zs := Rd.keep h hk
theorem RdI.mono (h : RdI w D A c zs) (hE : ∀ b, D b → b < w.heap.size → E b) : RdI w E A c zs := Rd.mono h hE
theorem RdI.old (h : RdI w D A c zs) : RdI w (· < w.heap.size) A c zs := Rd.old h
theorem RdI.get {k : Nat} (h : RdI w D A c zs) (hk : k < zs.length) : ∃ b o x, A = some ⟨b, o, none⟩ ∧ D b ∧ b < w.heap.size ∧ Hid (zs.getD k 0 = x) ∧ w.cell? ⟨b, o + k, none⟩ = some (.int .i64 x) := by
  obtain ⟨b, o, e, hb, hl, hc⟩ := h.2 (by omega)
  exact ⟨b, o, _, e, hb, hl, hid rfl, hc k _ (by simp [hk])⟩
theorem RdI.ptr (h : RdI w D A c zs) (hk : 0 < zs.length) : ∃ b o, A = some ⟨b, o, none⟩ ∧ D b ∧ b < w.heap.size ∧ ∀ k, k < zs.length → w.cell? ⟨b, o + k, none⟩ = some (.int .i64 (zs.getD k 0)) := by
  obtain ⟨b, o, e, hb, hl, hc⟩ := h.2 (by omega)
  exact ⟨b, o, e, hb, hl, fun k hk => hc k _ (by simp [hk])⟩
theorem RdI.cut {k : Nat} (h : RdI w D A c zs) (hk : k ≤ zs.length) : RdI w D (if c = k then A else A.map (·.add k)) (c - k) (zs.drop k) := by
  have := Rd.cut (k := k) h hk
  unfold RdI
  simpa using this
theorem RdI.take {k : Nat} (h : RdI w D A c zs) (hk : k ≤ zs.length) : RdI w D A c (zs.take k) := by
  have := Rd.take (k := k) h hk
  unfold RdI
  simpa [Nat.min_eq_left hk] using this
theorem RdI.one {b o : Nat} {z : Int} (hb : D b) (hc : w.cell? ⟨b, o, none⟩ = some (.int .i64 z)) : RdI w D (some ⟨b, o, none⟩) 1 [z] := by
  refine ⟨⟨by simp, by simp, by simp, by omega⟩, fun _ => ⟨b, o, rfl, hb, World.block_lt_of_cell? w ⟨b, o, none⟩ hc, fun j u hu => ?_⟩⟩
  cases j with
  | zero => simp at hu; subst hu; exact hc
  | succ j => simp at hu
end

/-- A slice of slices of ints. -/
def RdII (w : World) (D : Dom) (A : Option Addr) (c : Nat) (rows : List (List Int)) : Prop :=
  ∃ vs : List Value, Rd w D 1 A rows.length c vs ∧ ∀ i, i < rows.length → ∃ A' c', vs[i]? = some (.slice A' (rows.getD i []).length c') ∧ RdI w D A' c' (rows.getD i [])

section
variable {D E : Dom} {w w' : World} {A : Option Addr} {c : Nat} {rows : List (List Int)}
theorem RdII.nil (w : World) (D : Dom) (A : Option Addr) {c : Nat} (hc : c ≤ 9223372036854775807) : RdII w D A c [] := ⟨[], Rd.nil w D 1 A hc, fun _ h => absurd h (Nat.not_lt_zero _)⟩
theorem RdII.len (h : RdII w D A c rows) : rows.length ≤ 140737488355328 ∧ rows.length ≤ c ∧ c ≤ 9223372036854775807 := let ⟨_, h1, _⟩ := h; h1.1.2
theorem RdII.keep (h : RdII w D A c rows) (hk : Keeps D w w') : RdII w' D A c rows :=
  let ⟨vs, h1, h2⟩ := h
  ⟨vs, h1.keep hk, fun i hi => let ⟨A', c', h3, h4⟩ := h2 i hi; ⟨A', c', h3, h4.keep hk⟩⟩
theorem RdII.mono (h : RdII w D A c rows) (hE : ∀ b, D b → b < w.heap.size → E b) : RdII w E A c rows :=
  let ⟨vs, h1, h2⟩ := h
  ⟨vs, h1.mono hE, fun i hi => let ⟨A', c', h3, h4⟩ := h2 i hi; ⟨A', c', h3, h4.mono hE⟩⟩
theorem RdII.old (h : RdII w D A c rows) : RdII w (· < w.heap.size) A c rows := h.mono fun _ _ hl => hl
theorem RdII.get {k : Nat} (h : RdII w D A c rows) (hk : k < rows.length) : ∃ b o A' c' r, A = some ⟨b, o, none⟩ ∧ D b ∧ b < w.heap.size ∧ Hid (rows.getD k [] = r) ∧ RdI w D A' c' r ∧
    w.cell? ⟨b, o + k, none⟩ = some (.slice A' r.length c') := by
  obtain ⟨vs, h1, h2⟩ := h
  obtain ⟨b, o, e, hb, hl, hc⟩ := h1.2 (by omega)
  obtain ⟨A', c', h3, h4⟩ := h2 k hk
  exact ⟨b, o, A', c', _, e, hb, hl, hid rfl, h4, hc k _ h3⟩
end

theorem cell_alloc_old (w : World) (o : Obj) (p : Addr) (h : p.block < w.heap.size) : (w.alloc o).cell? p = w.cell? p := World.cell?_alloc_lt w o p h
theorem cell_new (w : World) (cs : Array Value) (t : TypeId) (n i : Nat) (u : Value) (h : n = w.heap.size) (hu : cs[i]? = some u) : (w.alloc (.cells cs t)).cell? ⟨n, i, none⟩ = some u := by
  subst h
  rw [World.cell?_alloc_new]; exact hu
/-- Block b holds the cells cs (a struct, a variable that has an address). -/
def Box (w : World) (b : Nat) (cs : Array Value) : Prop := ∀ j u, cs[j]? = some u → w.cell? ⟨b, j, none⟩ = some u
theorem Box.new (w : World) (cs : Array Value) (t : TypeId) {n : Nat} (h : n = w.heap.size) : Box (w.alloc (.cells cs t)) n cs := fun _ u hu => cell_new w cs t _ _ u h hu
theorem Box.below {B : Nat} {w w' : World} {b : Nat} {cs : Array Value} (h : Box w b cs) (hb : Below B w w') (hB : w.heap.size ≤ B) : Box w' b cs := fun j u hu => by
  have := h j u hu
  rw [← this]
  exact hb.cell (p := ⟨b, j, none⟩) (Nat.lt_of_lt_of_le (World.block_lt_of_cell? w ⟨b, j, none⟩ this) hB)
theorem Box.alloc {w : World} {b : Nat} {cs : Array Value} (h : Box w b cs) (o : Obj) : Box (w.alloc o) b cs := h.below ((Below.refl _ _).alloc (Nat.le_refl _) o) (Nat.le_refl _)
theorem Box.grown {w w' : World} {b : Nat} {cs : Array Value} {row : Option Nat} (h : Box w b cs) (hg : w.grownBy w' row) (hne : some b ≠ row) : Box w' b cs := fun j u hu => hg.cell (a := ⟨b, j, none⟩) (h j u hu) hne
theorem Box.set {w : World} {b : Nat} {cs : Array Value} (h : Box w b cs) {p : Addr} (hp : b ≠ p.block) (u : Value) : Box (w.setCell p u) b cs := fun j u' hu => by
  rw [← h j u' hu]
  exact World.cell?_of_block (w := w) (a := ⟨b, j, none⟩) (Below.heap_setCell w p u b hp)
theorem Box.drewN {w : World} {b : Nat} {cs : Array Value} (h : Box w b cs) (n : Nat) : Box (w.drewN n) b cs := h
theorem Box.drew {w : World} {b : Nat} {cs : Array Value} (h : Box w b cs) : Box w.drew b cs := h
theorem ret_bool {a b : Bool} (h : a = b) : Ending.returned (.bool a) = .returned (.bool b) := by rw [h]
theorem ret_int {a b : Int} (h : a = b) : Ending.returned (.int .i64 a) = .returned (.int .i64 b) := by rw [h]
theorem getD_take {α : Type} (l : List α) (d : α) {k j : Nat} (h : j < k) : (l.take k).getD j d = l.getD j d := by
  simp [List.getD, List.getElem?_take, h]
theorem take_succ_getD {α : Type} (l : List α) (d : α) {k : Nat} (h : k < l.length) : l.take (k + 1) = l.take k ++ [l.getD k d] := by
  rw [List.take_succ_eq_append_getElem h]; simp [List.getD, h]
/-- All numbers below n have a property. -/
def allN (n : Nat) (p : Nat → Bool) : Bool := (List.range n).all p
theorem allN_true {n : Nat} {p : Nat → Bool} : allN n p = true ↔ ∀ j, j < n → p j = true := by simp [allN]
theorem allN_of {n : Nat} {p : Nat → Bool} (h : ∀ j, j < n → p j = true) : allN n p = true := allN_true.2 h
theorem allN_false {n j : Nat} {p : Nat → Bool} (h : j < n) (hp : p j = false) : allN n p = false := by
  cases h' : allN n p
  · rfl
  · rw [allN_true.1 h' j h] at hp; cases hp
/-- So far all have it. -/
def SoFar (k : Nat) (p : Nat → Bool) : Prop := ∀ j, j < k → p j = true
theorem SoFar.zero (p : Nat → Bool) : SoFar 0 p := fun _ h => absurd h (Nat.not_lt_zero _)
theorem SoFar.succ {k : Nat} {p : Nat → Bool} (h : SoFar k p) (hp : p k = true) : SoFar (k + 1) p := fun j hj => by
  rcases Nat.lt_succ_iff_lt_or_eq.1 hj with h' | rfl
  · exact h j h'
  · exact hp
theorem SoFar.all {n k : Nat} {p : Nat → Bool} (h : SoFar k p) (hk : n ≤ k) : allN n p = true := allN_of fun j hj => h j (Nat.lt_of_lt_of_le hj hk)
end Go.Proofs.Ythhknonaebnooaa
set_option linter.unusedVariables false
set_option linter.unusedSimpArgs false
namespace Go.Proofs.Ythhknonaebnooaa
open Go.RowKit

theorem own_shape {w : World} {base n size : Nat} {e : TypeId} {v : Value} {xs : List Value} (h : w.ownsRow base e size v n xs) : ∃ A c, v = .slice A n c := by
  rcases h.2 with ⟨rfl, rfl⟩ | ⟨g, cap, cur, rfl, _⟩
  · exact ⟨none, 0, rfl⟩
  · exact ⟨_, _, rfl⟩

section
variable {P : Program} (w : World)

theorem run_append_rd (base : Nat) (t ty e : TypeId) (i : TypeInfo) (z : Value) (size bytes : Nat) (ht : P.underlying t = some (.slice e)) (hi : P.info? e = some i) (hz : i.zero = some z)
    (hsize : i.size = size) (hby : i.bytes = bytes) (hzs : z.cells.size = size) (hsz : 0 < size)
    (v : Value) (n : Nat) (xs : List Value) (hown : w.ownsRow base e size v n xs)
    (D : Dom) (A : Option Addr) (m c : Nat) (news : List Value) (hr : Rd w D size A m c news) (h1 : ∀ u ∈ news, u.oneCell' = true)
    (hbytes : (n + m) * bytes ≤ 140737488355328) (h63 : n + m ≤ maxLen) (hbase : base ≤ w.heap.size) :
    ∃ A' c' w', (Builtin.append_ #[t, t] ty #[v, .slice A m c]).run P w = .ok (.slice A' (n + m) c') w' ∧ w'.ownsRow base e size (.slice A' (n + m) c') (n + m) (xs ++ news) ∧ w.grownBy w' v.ownBlock ∧
      ((Value.slice A' (n + m) c').ownBlock = v.ownBlock ∨ (Value.slice A' (n + m) c').ownBlock = some w.heap.size) := by
  rcases A with _ | ad
  · have hm : m = 0 := by
      rcases Nat.eq_zero_or_pos m with h0 | h0
      · exact h0
      · obtain ⟨_, _, h, _⟩ := hr.2 h0
        cases h
    subst hm
    have hn : news = [] := List.eq_nil_of_length_eq_zero (by simpa using hr.1.1)
    subst hn
    obtain ⟨A', c', rfl⟩ := own_shape hown
    refine ⟨A', c', w, ?_, by simpa using hown, World.grownBy.refl w _, .inl rfl⟩
    rcases hown.2 with ⟨hv, _⟩ | ⟨g, cap, cur, hv, _, _, hnc, _⟩
    · injection hv with e1 e2 e3
      subst e1 e2 e3
      simp [Builtin.append_, run_underlying ht, sizeOf, typeInfo, hi, Builtin.lenOf, Builtin.firstCells]
    · injection hv with e1 e2 e3
      subst e1 e3
      simp [Builtin.append_, run_underlying ht, sizeOf, typeInfo, hi, Builtin.lenOf, Builtin.firstCells, hnc, storeCells]
  · have hcells : ∀ j u, news[j]? = some u → w.cell? (ad.add j) = some u := by
      intro j u hu
      rcases Nat.eq_zero_or_pos m with h0 | h0
      · subst h0
        have hn : news = [] := List.eq_nil_of_length_eq_zero (by simpa using hr.1.1)
        subst hn
        simp at hu
      · obtain ⟨b, o, h, _, _, hc⟩ := hr.2 h0
        injection h with h
        subst h
        have e : (⟨b, o, none⟩ : Addr).add j = ⟨b, o + j, none⟩ := by
          unfold Addr.add
          by_cases h0 : j = 0 <;> simp [h0]
        rw [e]
        exact hc j u hu
    obtain ⟨v', w', hrun, h2, h3, _, h5⟩ := run_append_own_at (P := P) w base t ty e i z size bytes ht hi hz hsize hby hzs hsz v n xs hown ad m c news hr.1.1 hcells h1 h63 hbytes hbase
    obtain ⟨A', c', rfl⟩ := own_shape h2
    exact ⟨A', c', w', hrun, h2, h3, h5⟩

theorem wp_append_rd {o : Oper} {a : Act} {K : Act → World → Prop} {Q : Exit → Act → World → Prop} (s x : Operand) (t : TypeId)
    (ho : o.op = .call { callee := .builtin .append, args := #[s, x], argTypes := #[t, t] })
    (base : Nat) (e : TypeId) (i : TypeInfo) (z : Value) (size bytes : Nat) (ht : P.underlying t = some (.slice e)) (hi : P.info? e = some i) (hz : i.zero = some z)
    (hsize : i.size = size) (hby : i.bytes = bytes) (hzs : z.cells.size = size) (hsz : 0 < size)
    (v : Value) (n : Nat) (xs : List Value) (hs : a.eval s = v) (hown : w.ownsRow base e size v n xs)
    (D : Dom) (A : Option Addr) (m c : Nat) (news : List Value) (hx : a.eval x = .slice A m c) (hr : Rd w D size A m c news) (h1 : ∀ u ∈ news, u.oneCell' = true)
    (hbytes : (n + m) * bytes ≤ 140737488355328) (h63 : n + m ≤ maxLen) (hbase : base ≤ w.heap.size)
    (h : ∀ A' c' w', w'.ownsRow base e size (.slice A' (n + m) c') (n + m) (xs ++ news) → w.grownBy w' v.ownBlock → ((Value.slice A' (n + m) c').ownBlock = v.ownBlock ∨ (Value.slice A' (n + m) c').ownBlock = some w.heap.size) →
      K (a.put o.dst (.slice A' (n + m) c')) w') : o.wp P a w K Q := by
  obtain ⟨A', c', w', hrun, h2, h3, h4⟩ := run_append_rd (P := P) w base t o.type e i z size bytes ht hi hz hsize hby hzs hsz v n xs hown D A m c news hr h1 hbytes h63 hbase
  unfold Oper.wp execOp
  simp only [ho, resolve, invoke, builtin, Sem.run_bind, Sem.run_pure, Result.andThen_ok, List.map_toArray, List.map_cons, List.map_nil, hs, hx, hrun]
  exact h A' c' w' h2 h3 h4

theorem wpList_append_rd {ops : Array Oper} {rest : List Oper} {o : Oper} {a : Act} {Q : Exit → Act → World → Prop} (hgd : o.guard = none) (s x : Operand) (t : TypeId)
    (ho : o.op = .call { callee := .builtin .append, args := #[s, x], argTypes := #[t, t] })
    (base : Nat) (e : TypeId) (i : TypeInfo) (z : Value) (size bytes : Nat) (ht : P.underlying t = some (.slice e)) (hi : P.info? e = some i) (hz : i.zero = some z)
    (hsize : i.size = size) (hby : i.bytes = bytes) (hzs : z.cells.size = size) (hsz : 0 < size)
    (v : Value) (n : Nat) (xs : List Value) (hs : a.eval s = v) (hown : w.ownsRow base e size v n xs)
    (D : Dom) (A : Option Addr) (m c : Nat) (news : List Value) (hx : a.eval x = .slice A m c) (hr : Rd w D size A m c news) (h1 : ∀ u ∈ news, u.oneCell' = true)
    (hbytes : (n + m) * bytes ≤ 140737488355328) (h63 : n + m ≤ maxLen) (hbase : base ≤ w.heap.size)
    (h : ∀ A' c' w', w'.ownsRow base e size (.slice A' (n + m) c') (n + m) (xs ++ news) → w.grownBy w' v.ownBlock → ((Value.slice A' (n + m) c').ownBlock = v.ownBlock ∨ (Value.slice A' (n + m) c').ownBlock = some w.heap.size) →
      wpList P ops Q rest (a.put o.dst (.slice A' (n + m) c')) w') : wpList P ops Q (o :: rest) a w :=
  wpList_plain hgd fun _ hK => wp_append_rd w s x t ho base e i z size bytes ht hi hz hsize hby hzs hsz v n xs hs hown D A m c news hx hr h1 hbytes h63 hbase fun A' c' w' h2 h3 h4 => hK _ _ (h A' c' w' h2 h3 h4)

theorem step_append_rd {ops : Array Oper} {o : Oper} {a : Act} {K : Act → World → Prop} {Q : Exit → Act → World → Prop} {E : Prop} (hgd : o.guard = none) (s x : Operand) (t : TypeId)
    (ho : o.op = .call { callee := .builtin .append, args := #[s, x], argTypes := #[t, t] })
    (base : Nat) (e : TypeId) (i : TypeInfo) (z : Value) (size bytes : Nat) (ht : P.underlying t = some (.slice e)) (hi : P.info? e = some i) (hz : i.zero = some z)
    (hsize : i.size = size) (hby : i.bytes = bytes) (hzs : z.cells.size = size) (hsz : 0 < size)
    (v : Value) (n : Nat) (xs : List Value) (hs : a.eval s = v) (hown : w.ownsRow base e size v n xs)
    (D : Dom) (A : Option Addr) (m c : Nat) (news : List Value) (hx : a.eval x = .slice A m c) (hr : Rd w D size A m c news) (h1 : ∀ u ∈ news, u.oneCell' = true)
    (hbytes : (n + m) * bytes ≤ 140737488355328) (h63 : n + m ≤ maxLen) (hbase : base ≤ w.heap.size)
    (h : ∀ A' c' w', w'.ownsRow base e size (.slice A' (n + m) c') (n + m) (xs ++ news) → w.grownBy w' v.ownBlock → ((Value.slice A' (n + m) c').ownBlock = v.ownBlock ∨ (Value.slice A' (n + m) c').ownBlock = some w.heap.size) →
      K (a.put o.dst (.slice A' (n + m) c')) w') :
    if Region.wanted o (yielded ops a.tmps) = true then Oper.wp P o a w K Q else E := by
  have hw : Region.wanted o (yielded ops a.tmps) = true := by simp [Region.wanted, hgd]
  rw [if_pos hw]
  exact wp_append_rd w s x t ho base e i z size bytes ht hi hz hsize hby hzs hsz v n xs hs hown D A m c news hx hr h1 hbytes h63 hbase h
end

theorem ints_one (zs : List Int) : ∀ u ∈ zs.map (Value.int .i64), u.oneCell' = true := by
  intro u hu
  obtain ⟨z, _, rfl⟩ := List.mem_map.1 hu
  rfl
/-- The row of cells that has just been laid. -/
theorem Rd.fresh {w : World} {D : Dom} {cs : Array Value} {t : TypeId} {n k size : Nat} (hk : k = w.heap.size) (hD : D k) (hs : cs.size = n * size) (hn : n ≤ 140737488355328) :
    Rd (w.alloc (.cells cs t)) D size (some ⟨k, 0, none⟩) n n cs.toList := by
  subst hk
  refine ⟨⟨by simpa using hs, hn, Nat.le_refl _, by omega⟩, fun _ => ⟨_, 0, rfl, hD, by simp, fun j u hu => ?_⟩⟩
  rw [Nat.zero_add]
  exact cell_new w cs t _ j u rfl (by simpa using hu)
theorem cell_newN (w : World) (cs : Array Value) (t : TypeId) (n i q : Nat) (u : Value) (h : n = w.heap.size) (hu : cs[i]? = some u) : ((w.alloc (.cells cs t)).drewN q).cell? ⟨n, i, none⟩ = some u := cell_new w cs t n i u h hu
theorem Rd.cell1 {w : World} {k : Nat} {u : Value} (h : w.cell? ⟨k, 0, none⟩ = some u) : Rd w (fun _ => True) 1 (some ⟨k, 0, none⟩) 1 1 [u] := by
  refine ⟨⟨by simp, by omega, by omega, by omega⟩, fun _ => ⟨k, 0, rfl, trivial, World.block_lt_of_cell? w ⟨k, 0, none⟩ h, fun j v hv => ?_⟩⟩
  cases j with
  | zero => simp at hv; subst hv; exact h
  | succ j => simp at hv
theorem Rd.cell3 {w : World} {k : Nat} {u0 u1 u2 : Value} (h0 : w.cell? ⟨k, 0, none⟩ = some u0) (h1 : w.cell? ⟨k, 1, none⟩ = some u1) (h2 : w.cell? ⟨k, 2, none⟩ = some u2) : Rd w (fun _ => True) 3 (some ⟨k, 0, none⟩) 1 1 [u0, u1, u2] := by
  refine ⟨⟨by simp, by omega, by omega, by omega⟩, fun _ => ⟨k, 0, rfl, trivial, World.block_lt_of_cell? w ⟨k, 0, none⟩ h0, fun j v hv => ?_⟩⟩
  match j, hv with
  | 0, hv => simp at hv; subst hv; exact h0
  | 1, hv => simp at hv; subst hv; exact h1
  | 2, hv => simp at hv; subst hv; exact h2
  | j + 3, hv => simp at hv
theorem maxLen_le {n : Nat} (h : n ≤ 9223372036854775807) : n ≤ maxLen := h
/-- The world under a name of its own. -/
theorem wp_gen {P : Program} {c : Code} {Q : Exit → Act → World → Prop} {a : Act} {w : World} (h : ∀ W, W = w → c.wp P Q a W) : c.wp P Q a w := h w rfl
theorem own_below {w W : World} {base n size : Nat} {e : TypeId} {v : Value} {xs : List Value} (h : w.ownsRow base e size v n xs) (hb : Below w.heap.size w W) : W.ownsRow base e size v n xs :=
  h.kept (row := none) ⟨hb.os, hb.tape, hb.output, hb.size, fun k hk _ => hb.block k hk⟩ (by cases v.ownBlock <;> simp)
theorem below_drewN {B : Nat} {w W : World} (h : Below B w W) (n : Nat) : Below B w (W.drewN n) := h.trans ((Drawn.n W n).below B)
/-! make([]T, n), T of one cell. -/
section
variable {P : Program} (w : World)
theorem wp_make_one {o : Oper} {a : Act} {K : Act → World → Prop} {Q : Exit → Act → World → Prop} (l c : Operand) (t : TypeId) (hop : o.op = Op.makeSlice t l c)
    (base : Nat) (e : TypeId) (i : TypeInfo) (z : Value) (bytes : Nat) (h1 : P.underlying t = some (.slice e)) (h2 : P.info? e = some i) (h3 : i.zero = some z) (h4 : i.size = 1) (h5 : i.bytes = bytes) (h6 : z.cells = #[z])
    (kl kc : IntKind) (L C : Int) (n : Nat) (hl : a.eval l = .int kl L) (hc : a.eval c = .int kc C) (hL : L = (n : Int)) (hC : C = (n : Int)) (b2 : bytes * n ≤ 281474976710656) (b3 : n ≤ maxLen) (b4 : base ≤ w.heap.size)
    (hK : ∀ w', w'.ownsRow base e 1 (.slice (some ⟨w.heap.size, 0, none⟩) n n) n (List.replicate n z) → w.grownBy w' none → K (a.put o.dst (.slice (some ⟨w.heap.size, 0, none⟩) n n)) w') : o.wp P a w K Q := by
  subst h5 hL hC
  obtain ⟨w', hrun, r1, r2⟩ := run_make_full (P := P) w base t e i z 1 h1 h2 h3 h4 kl kc n b2 b3 b4
  rw [h6, Nat.mul_one, toList_madeCells_one] at r1
  unfold Oper.wp
  simp [execOp, hop, hl, hc, hrun, Result.andThen]
  exact hK w' r1 r2
theorem wpList_make_one {ops : Array Oper} {rest : List Oper} {o : Oper} {a : Act} {Q : Exit → Act → World → Prop} (hg : o.guard = none) (l c : Operand) (t : TypeId) (hop : o.op = Op.makeSlice t l c)
    (base : Nat) (e : TypeId) (i : TypeInfo) (z : Value) (bytes : Nat) (h1 : P.underlying t = some (.slice e)) (h2 : P.info? e = some i) (h3 : i.zero = some z) (h4 : i.size = 1) (h5 : i.bytes = bytes) (h6 : z.cells = #[z])
    (kl kc : IntKind) (L C : Int) (n : Nat) (hl : a.eval l = .int kl L) (hc : a.eval c = .int kc C) (hL : L = (n : Int)) (hC : C = (n : Int)) (b2 : bytes * n ≤ 281474976710656) (b3 : n ≤ maxLen) (b4 : base ≤ w.heap.size)
    (hK : ∀ w', w'.ownsRow base e 1 (.slice (some ⟨w.heap.size, 0, none⟩) n n) n (List.replicate n z) → w.grownBy w' none → wpList P ops Q rest (a.put o.dst (.slice (some ⟨w.heap.size, 0, none⟩) n n)) w') : wpList P ops Q (o :: rest) a w :=
  wpList_plain hg fun _ hK' => wp_make_one w l c t hop base e i z bytes h1 h2 h3 h4 h5 h6 kl kc L C n hl hc hL hC b2 b3 b4 fun w' r1 r2 => hK' _ _ (hK w' r1 r2)
theorem step_make_one {ops : Array Oper} {o : Oper} {a : Act} {K : Act → World → Prop} {Q : Exit → Act → World → Prop} {E : Prop} (hg : o.guard = none) (l c : Operand) (t : TypeId) (hop : o.op = Op.makeSlice t l c)
    (base : Nat) (e : TypeId) (i : TypeInfo) (z : Value) (bytes : Nat) (h1 : P.underlying t = some (.slice e)) (h2 : P.info? e = some i) (h3 : i.zero = some z) (h4 : i.size = 1) (h5 : i.bytes = bytes) (h6 : z.cells = #[z])
    (kl kc : IntKind) (L C : Int) (n : Nat) (hl : a.eval l = .int kl L) (hc : a.eval c = .int kc C) (hL : L = (n : Int)) (hC : C = (n : Int)) (b2 : bytes * n ≤ 281474976710656) (b3 : n ≤ maxLen) (b4 : base ≤ w.heap.size)
    (hK : ∀ w', w'.ownsRow base e 1 (.slice (some ⟨w.heap.size, 0, none⟩) n n) n (List.replicate n z) → w.grownBy w' none → K (a.put o.dst (.slice (some ⟨w.heap.size, 0, none⟩) n n)) w') :
    if Region.wanted o (yielded ops a.tmps) = true then Oper.wp P o a w K Q else E := by
  have hw : Region.wanted o (yielded ops a.tmps) = true := by simp [Region.wanted, hg]
  rw [if_pos hw]
  exact wp_make_one w l c t hop base e i z bytes h1 h2 h3 h4 h5 h6 kl kc L C n hl hc hL hC b2 b3 b4 hK
end
theorem grown_below {w w' : World} {B : Nat} (h : w.grownBy w' none) (hB : B ≤ w.heap.size) : Below B w w' := (Below.refl _ _).grown h hB (by simp)
/-- A row of n zeros, as 'make' lays it. -/
def zrow (z : Value) (n : Nat) (e : TypeId) : Obj := .cells (Array.replicate n z) e
theorem run_make_zrow {P : Program} (t e : TypeId) (i : TypeInfo) (z : Value) (bytes : Nat) (h1 : P.underlying t = some (.slice e)) (h2 : P.info? e = some i) (h3 : i.zero = some z) (h4 : i.size = 1) (h5 : i.bytes = bytes) (h6 : z.cells = #[z])
    (kl kc : IntKind) (n : Nat) (b2 : bytes * n ≤ 281474976710656) (b3 : n ≤ 9223372036854775807) (w : World) :
    (Instr.makeSlice t (.int kl (n : Int)) (.int kc (n : Int))).run P w = .ok (.slice (some ⟨w.heap.size, 0, none⟩) n n) (w.alloc (zrow z n e)) := by
  have e1 : madeCells #[z] n = Array.replicate n z := by
    apply Array.toList_inj.1
    rw [toList_madeCells_one]; simp
  subst h5
  have b2' : (i.bytes : Int) * (n : Int) ≤ 281474976710656 := by rw [← Int.natCast_mul]; omega
  have hr := run_make w t e i z h1 h2 h3 kl kc n n (by omega) (by omega) b2' (by omega)
  rw [h4, h6, Int.toNat_natCast, Nat.mul_one, e1] at hr
  exact hr
theorem own_zrow (w : World) (base : Nat) (z : Value) (n : Nat) (e : TypeId) (hb : base ≤ w.heap.size) (hn : n ≤ maxLen) : (w.alloc (zrow z n e)).ownsRow base e 1 (.slice (some ⟨w.heap.size, 0, none⟩) n n) n (List.replicate n z) := by
  have := World.ownsRow_lit (base := base) (e := e) (size := 1) w (Array.replicate n z) n hb hn (by simp)
  rw [Array.toList_replicate] at this
  exact this
theorem own_ne {w : World} {base n size g : Nat} {e t : TypeId} {v : Value} {xs : List Value} {cs : Array Value} {fr : Nat × Nat} (h : w.ownsRow base e size v n xs) (hg : w.heap[g]? = some (.cells cs t fr)) (hne : e ≠ t) : v.ownBlock ≠ some g := by
  rcases h.2 with ⟨rfl, _⟩ | ⟨g', cap, cur, rfl, _, hh, _⟩
  · simp [Value.ownBlock]
  · intro he
    have : g' = g := by simpa [Value.ownBlock] using he
    subst this
    rw [hh] at hg
    injection hg with hg
    injection hg with _ h1
    exact hne h1
theorem set_block {w : World} {b i : Nat} {cs : Array Value} {t : TypeId} (h : w.heap[b]? = some (.cells cs t (0, 0))) (u : Value) : (w.setCell ⟨b, i, none⟩ u).heap[b]? = some (.cells (cs.setIfInBounds i u) t (0, 0)) := by
  simp [World.setCell, Array.getElem?_modify, h]
theorem block_cell {w : World} {b i : Nat} {cs : Array Value} {t : TypeId} {fr : Nat × Nat} {u : Value} (h : w.heap[b]? = some (.cells cs t fr)) (hu : cs[i]? = some u) : w.cell? ⟨b, i, none⟩ = some u := by
  simp [World.cell?, h, hu]
theorem block_free {w : World} {b i : Nat} {cs : Array Value} {t : TypeId} (h : w.heap[b]? = some (.cells cs t (0, 0))) : w.frozen? ⟨b, i, none⟩ = false := by
  simp [World.frozen?, h]
end Go.Proofs.Ythhknonaebnooaa
set_option linter.unusedVariables false
set_option linter.unusedSimpArgs false
namespace Go.Proofs.Ythhknonaebnooaa
open Go.RowKit

set_option linter.unusedSectionVars false
theorem idxOf_cons_ne {κ : Type} [DecidableEq κ] {a k : κ} (l : List κ) (h : a ≠ k) : (a :: l).idxOf k = l.idxOf k + 1 := by
  rw [List.idxOf_cons, beq_eq_false_iff_ne.2 h]; rfl
/-- Keys of type K are the values of κ. -/
structure KeyT (P : Program) (K : TypeId) {κ : Type} [DecidableEq κ] (enc : κ → Value) : Prop where
  check : ∀ (e : Bool) (w : World) (k : κ), (Instr.checkKey e 10000 K (enc k)).run P w = .ok () w
  find : ∀ (w : World) (k : κ) (es : List MapEntry) (ks : List κ), es.map (·.key) = ks.map enc →
    (Instr.findKey K (enc k) es).run P w = .ok (if k ∈ ks then some (ks.idxOf k, (es.getD (ks.idxOf k) default).val) else none) w
  same : ∀ k : κ, Instr.sameBits 10000 (enc k) (enc k) = true

section
variable {P : Program} {K : TypeId} {κ : Type} [DecidableEq κ] {enc : κ → Value}

theorem find_asking (heq : ∀ (w : World) (a b : κ), (Op.equal K (enc a) (enc b)).run P w = .ok (decide (a = b)) w) (w : World) (k : κ) : ∀ (es : List MapEntry) (ks : List κ) (i : Nat), es.map (·.key) = ks.map enc →
    (Instr.findAsking K (enc k) es i).run P w = .ok (if k ∈ ks then some (i + ks.idxOf k, (es.getD (ks.idxOf k) default).val) else none) w
  | [], [], i, _ => by simp [Instr.findAsking]
  | [], _ :: _, _, h => by simp at h
  | _ :: _, [], _, h => by simp at h
  | e :: es, a :: ks, i, h => by
    simp only [List.map_cons, List.cons.injEq] at h
    simp only [Instr.findAsking, Sem.run_bind, h.1, heq w k a, Result.andThen_ok]
    by_cases hk : k = a
    · subst hk; simp
    · have := find_asking heq w k es ks (i + 1) h.2
      simp only [hk, decide_false, Bool.false_eq_true, if_false, this]
      have hi : (a :: ks).idxOf k = ks.idxOf k + 1 := idxOf_cons_ne ks fun e => hk e.symm
      simp only [List.mem_cons, hk, false_or, hi, List.getD_cons_succ]
      congr 1
      split
      · congr 2; omega
      · rfl

/-- Keys that are compared by asking (structs, arrays). -/
theorem KeyT.of_asking (check : ∀ (e : Bool) (w : World) (k : κ), (Instr.checkKey e 10000 K (enc k)).run P w = .ok () w) (heq : ∀ (w : World) (a b : κ), (Op.equal K (enc a) (enc b)).run P w = .ok (decide (a = b)) w)
    {d : TypeDesc} (hd : P.underlying K = some d) (hn : ∀ a b : κ, Instr.sameNow d (enc a) (enc b) = none) (same : ∀ k : κ, Instr.sameBits 10000 (enc k) (enc k) = true) : KeyT P K enc :=
  ⟨check, fun w k es ks h => by
    match es, ks, h with
    | [], [], _ => simp [Instr.findKey, run_underlying hd, Instr.findNow]
    | e :: es, a :: ks, h =>
      have h1 : e.key = enc a := by simp at h; exact h.1
      have h2 := find_asking heq w k (e :: es) (a :: ks) 0 h
      simp only [Nat.zero_add] at h2
      simp only [Instr.findKey, Sem.run_bind, run_underlying hd, Result.andThen_ok, Instr.findNow, h1, hn, h2], same⟩

/-- Keys that are compared at once (ints, strings, bools). -/
theorem KeyT.of_now {d : TypeDesc} (hd : P.underlying K = some d) (hc : ∀ (e : Bool) (w : World) (k : κ), (Instr.checkKey e 10000 K (enc k)).run P w = .ok () w) (hn : ∀ a b : κ, Instr.sameNow d (enc a) (enc b) = some (decide (a = b)))
    (same : ∀ k : κ, Instr.sameBits 10000 (enc k) (enc k) = true) : KeyT P K enc :=
  ⟨hc, fun w k es ks h => by
    have key : ∀ (es : List MapEntry) (ks : List κ) (i : Nat), es.map (·.key) = ks.map enc → Instr.findNow d (enc k) es i = some (if k ∈ ks then some (i + ks.idxOf k, (es.getD (ks.idxOf k) default).val) else none) := by
      intro es
      induction es with
      | nil => intro ks i h; match ks, h with
                             | [], _ => simp [Instr.findNow]
      | cons e es ih =>
        intro ks i h
        match ks, h with
        | a :: ks, h =>
          simp only [List.map_cons, List.cons.injEq] at h
          simp only [Instr.findNow, h.1, hn]
          by_cases hk : k = a
          · subst hk; simp
          · simp only [hk, decide_false, ih ks (i + 1) h.2]
            have hi : (a :: ks).idxOf k = ks.idxOf k + 1 := idxOf_cons_ne ks fun e => hk e.symm
            simp only [List.mem_cons, hk, false_or, hi, List.getD_cons_succ]
            congr 1
            split
            · congr 2; omega
            · rfl
    have h2 := key es ks 0 h
    simp only [Nat.zero_add] at h2
    simp only [Instr.findKey, Sem.run_bind, run_underlying hd, Result.andThen_ok, h2, Sem.run_pure], same⟩

/-- Block mb is the map of the list l, in the order in which the keys came. -/
def MapIs (enc : κ → Value) (w : World) (mb : Nat) (l : List (κ × Value)) : Prop :=
  ∃ es clock, w.heap[mb]? = some (.map es clock) ∧ es.toList.map (fun e => (e.key, e.val)) = l.map (fun p => (enc p.1, p.2)) ∧ es.toList.map (·.born) = List.range clock

theorem MapIs.keys {w : World} {l : List (κ × Value)} {es : Array MapEntry} (h : es.toList.map (fun e => (e.key, e.val)) = l.map (fun p => (enc p.1, p.2))) : es.toList.map (·.key) = (l.map (·.1)).map enc := by
  have := congrArg (List.map Prod.fst) h
  simpa [Function.comp_def] using this
theorem MapIs.vals {w : World} {l : List (κ × Value)} {es : Array MapEntry} (h : es.toList.map (fun e => (e.key, e.val)) = l.map (fun p => (enc p.1, p.2))) : es.toList.map (·.val) = l.map (·.2) := by
  have := congrArg (List.map Prod.snd) h
  simpa [Function.comp_def] using this
theorem MapIs.of_block {w w' : World} {mb : Nat} {l : List (κ × Value)} (h : MapIs enc w mb l) (hb : w'.heap[mb]? = w.heap[mb]?) : MapIs enc w' mb l := by
  obtain ⟨es, clock, h1, h2⟩ := h
  exact ⟨es, clock, hb.trans h1, h2⟩
theorem MapIs.lt {w : World} {mb : Nat} {l : List (κ × Value)} (h : MapIs enc w mb l) : mb < w.heap.size := by
  obtain ⟨es, clock, h1, _⟩ := h
  exact lt_of_block h1
theorem MapIs.new (w : World) : MapIs enc (w.alloc (.map #[] 0)) w.heap.size [] := ⟨#[], 0, heap_alloc_new w _, rfl, rfl⟩

/-- What the map holds at a key. -/
def lookL (l : List (κ × Value)) (k : κ) : Option Value := (l.find? fun p => decide (p.1 = k)).map (·.2)
theorem lookL_idx (l : List (κ × Value)) (k : κ) (h : k ∈ l.map (·.1)) : lookL l k = some ((l.map (·.2)).getD ((l.map (·.1)).idxOf k) default) := by
  induction l with
  | nil => simp at h
  | cons p l ih =>
    unfold lookL
    by_cases hp : p.1 = k
    · subst hp; simp
    · have h' : k ∈ l.map (·.1) := by
        simp only [List.map_cons, List.mem_cons] at h
        exact h.resolve_left (fun e => hp e.symm)
      have := ih h'
      unfold lookL at this
      rw [List.find?_cons, decide_eq_false hp]
      rw [this, List.map_cons, List.map_cons, idxOf_cons_ne _ hp, List.getD_cons_succ]
theorem lookL_none (l : List (κ × Value)) (k : κ) (h : k ∉ l.map (·.1)) : lookL l k = none := by
  unfold lookL
  rw [List.find?_eq_none.2]
  · rfl
  · intro p hp
    simp only [decide_eq_true_eq]
    intro e
    exact h (e ▸ List.mem_map_of_mem hp)

theorem run_lookup_is (HK : KeyT P K enc) {T E : TypeId} (hT : P.underlying T = some (.map K E)) {z : Value} {w : World} (hz : (zeroValue E).run P w = .ok z w) {mb : Nat} {l : List (κ × Value)} (h : MapIs enc w mb l) (k : κ) (ok : Bool) :
    (Instr.lookup T (.map (some mb)) (enc k) ok).run P w = .ok (if ok then .tuple #[(lookL l k).getD z, .bool (lookL l k).isSome] else (lookL l k).getD z) w := by
  obtain ⟨es, clock, h1, h2, h3⟩ := h
  have hf := HK.find w k es.toList (l.map (·.1)) (MapIs.keys (w := w) h2)
  have hv := MapIs.vals (w := w) h2
  have hg : ∀ es' : Array MapEntry, (getObj mb).run P w = .ok (.map es clock) w := fun _ => by simp [getObj, Sem.run, h1]
  simp only [Instr.lookup, Sem.run_bind, run_underlying hT, Result.andThen_ok, hg es, Sem.run_pure, HK.check, hf]
  by_cases hk : k ∈ l.map (·.1)
  · have hd : (es.toList.getD ((l.map (·.1)).idxOf k) default).val = (l.map (·.2)).getD ((l.map (·.1)).idxOf k) default := by
      rw [← hv]
      simp only [List.getD, List.getElem?_map]
      cases hh : es.toList[(l.map (·.1)).idxOf k]? with
      | none =>
        exfalso
        have hl : es.toList.length = l.length := by have := congrArg List.length h2; simpa using this
        rw [List.getElem?_eq_none_iff] at hh
        have := List.idxOf_lt_length_of_mem hk
        rw [List.length_map] at this
        omega
      | some e => rfl
    rw [lookL_idx l k hk]
    simp only [hk, if_true, hd]
    cases ok <;> simp
  · rw [lookL_none l k hk]
    simp only [hk, if_false, Sem.run_bind, hz, Result.andThen_ok]
    cases ok <;> simp

/-- The map with a key set. -/
def putL (l : List (κ × Value)) (k : κ) (v : Value) : List (κ × Value) := if k ∈ l.map (·.1) then l.map (fun p => if p.1 = k then (p.1, v) else p) else l ++ [(k, v)]
theorem run_update_new (HK : KeyT P K enc) {T E : TypeId} (hT : P.underlying T = some (.map K E)) {w : World} {mb : Nat} {l : List (κ × Value)} (h : MapIs enc w mb l) (k : κ) (v : Value) (hk : k ∉ l.map (·.1)) :
    ∃ w', (Instr.mapUpdate T (.map (some mb)) (enc k) v).run P w = .ok () w' ∧ MapIs enc w' mb (l ++ [(k, v)]) ∧ w.grownBy w' (some mb) ∧ w'.heap.size = w.heap.size := by
  obtain ⟨es, clock, h1, h2, h3⟩ := h
  have hf := HK.find w k es.toList (l.map (·.1)) (MapIs.keys (w := w) h2)
  have hg : (getObj mb).run P w = .ok (.map es clock) w := by simp [getObj, Sem.run, h1]
  have hl := lt_of_block h1
  refine ⟨{ w with heap := w.heap.setIfInBounds mb (.map (es.push { key := enc k, val := v, born := clock }) (clock + 1)) }, ?_, ⟨_, _, by simp [hl]; exact ⟨rfl, rfl⟩, ?_, ?_⟩, ⟨rfl, rfl, rfl, by simp, fun i _ hi => ?_⟩, by simp⟩
  · simp only [Instr.mapUpdate, Sem.run_bind, run_underlying hT, Result.andThen_ok, hg, HK.check, hf, hk, if_false]
    simp [setObj, Sem.run, h1]
  · rw [Array.toList_push, List.map_append, List.map_append, h2]; rfl
  · rw [Array.toList_push, List.map_append, h3, List.range_succ]; rfl
  · have : mb ≠ i := fun e => hi (by rw [e])
    simp [this]
end
end Go.Proofs.Ythhknonaebnooaa
set_option linter.unusedVariables false
set_option linter.unusedSimpArgs false
namespace Go.Proofs.Ythhknonaebnooaa
open Go.RowKit

structure Mv where
  dst : Int
  good : Bool
  deriving DecidableEq
instance : Inhabited Mv := ⟨⟨0, false⟩⟩
structure Bu where
  letters : Int
  start : List Int
  next : List (List (List Mv))
structure Nd where
  name : Int
  parent : Int
  set : List Int
  deriving DecidableEq
instance : Inhabited Nd := ⟨⟨0, 0, []⟩⟩

/-- Cells of elements that all have s cells. -/
theorem flat_at {α : Type} (d : α) (f : α → List Value) (s : Nat) (hf : ∀ x, (f x).length = s) : ∀ (l : List α) (k j : Nat), k < l.length → j < s → (l.flatMap f)[k * s + j]? = (f (l.getD k d))[j]?
  | [], k, j, h, _ => absurd h (Nat.not_lt_zero _)
  | x :: l, 0, j, _, hj => by
    rw [List.flatMap_cons, List.getElem?_append_left (by rw [hf]; omega)]
    simp
  | x :: l, k + 1, j, h, hj => by
    have e0 : (k + 1) * s = s + k * s := by rw [Nat.add_mul, Nat.one_mul, Nat.add_comm]
    rw [List.flatMap_cons, List.getElem?_append_right (by rw [hf, e0]; omega)]
    have e : (k + 1) * s + j - (f x).length = k * s + j := by rw [hf, e0]; omega
    rw [e, flat_at d f s hf l k j (by simpa using h) hj]
    simp
def vcells (m : Mv) : List Value := [.int .i64 m.dst, .bool m.good]
/-- A slice of moves. -/
def RdV (w : World) (D : Dom) (A : Option Addr) (c : Nat) (l : List Mv) : Prop := Rd w D 2 A l.length c (l.flatMap vcells)
section
variable {D E : Dom} {w w' : World} {A : Option Addr} {c : Nat} {l : List Mv}
theorem RdV.nil (w : World) (D : Dom) (A : Option Addr) {c : Nat} (hc : c ≤ 9223372036854775807) : RdV w D A c [] := Rd.nil w D 2 A hc
theorem RdV.len (h : RdV w D A c l) : l.length ≤ 140737488355328 ∧ l.length ≤ c ∧ c ≤ 9223372036854775807 := h.1.2
theorem RdV.keep (h : RdV w D A c l) (hk : Keeps D w w') : RdV w' D A c l := Rd.keep h hk
theorem RdV.mono (h : RdV w D A c l) (hE : ∀ b, D b → b < w.heap.size → E b) : RdV w E A c l := Rd.mono h hE
theorem RdV.get {k : Nat} (h : RdV w D A c l) (hk : k < l.length) : ∃ b o x, A = some ⟨b, o, none⟩ ∧ D b ∧ b < w.heap.size ∧ Hid (l.getD k default = x) ∧ w.cell? ⟨b, o + k * 2, none⟩ = some (.int .i64 x.dst) ∧ w.cell? ⟨b, o + k * 2 + 1, none⟩ = some (.bool x.good) := by
  obtain ⟨b, o, e, hb, hl, hc⟩ := h.2 (by omega)
  have h0 := hc (k * 2 + 0) _ (by rw [flat_at default vcells 2 (fun _ => rfl) l k 0 hk (by omega)]; rfl)
  have h1 := hc (k * 2 + 1) _ (by rw [flat_at default vcells 2 (fun _ => rfl) l k 1 hk (by omega)]; rfl)
  exact ⟨b, o, _, e, hb, hl, hid rfl, by simpa using h0, by simpa [Nat.add_assoc] using h1⟩
end

/-- A slice of slices that are read by P. -/
def RdOf {α : Type} (P : World → Dom → Option Addr → Nat → List α → Prop) (w : World) (D : Dom) (A : Option Addr) (c : Nat) (rows : List (List α)) : Prop :=
  ∃ vs : List Value, Rd w D 1 A rows.length c vs ∧ ∀ i, i < rows.length → ∃ A' c', vs[i]? = some (.slice A' (rows.getD i []).length c') ∧ P w D A' c' (rows.getD i [])
section
variable {α : Type} {P : World → Dom → Option Addr → Nat → List α → Prop} {D E : Dom} {w w' : World} {A : Option Addr} {c : Nat} {rows : List (List α)}
theorem RdOf.nil (w : World) (D : Dom) (A : Option Addr) {c : Nat} (hc : c ≤ 9223372036854775807) : RdOf P w D A c [] := ⟨[], Rd.nil w D 1 A hc, fun _ h => absurd h (Nat.not_lt_zero _)⟩
theorem RdOf.len (h : RdOf P w D A c rows) : rows.length ≤ 140737488355328 ∧ rows.length ≤ c ∧ c ≤ 9223372036854775807 := let ⟨_, h1, _⟩ := h; h1.1.2
theorem RdOf.keep (hP : ∀ A c l, P w D A c l → P w' D A c l) (h : RdOf P w D A c rows) (hk : Keeps D w w') : RdOf P w' D A c rows :=
  let ⟨vs, h1, h2⟩ := h
  ⟨vs, h1.keep hk, fun i hi => let ⟨A', c', h3, h4⟩ := h2 i hi; ⟨A', c', h3, hP _ _ _ h4⟩⟩
theorem RdOf.mono (hP : ∀ A c l, P w D A c l → P w E A c l) (h : RdOf P w D A c rows) (hE : ∀ b, D b → b < w.heap.size → E b) : RdOf P w E A c rows :=
  let ⟨vs, h1, h2⟩ := h
  ⟨vs, h1.mono hE, fun i hi => let ⟨A', c', h3, h4⟩ := h2 i hi; ⟨A', c', h3, hP _ _ _ h4⟩⟩
theorem RdOf.get {k : Nat} (h : RdOf P w D A c rows) (hk : k < rows.length) : ∃ b o A' c' r, A = some ⟨b, o, none⟩ ∧ D b ∧ b < w.heap.size ∧ Hid (rows.getD k [] = r) ∧ P w D A' c' r ∧ w.cell? ⟨b, o + k, none⟩ = some (.slice A' r.length c') := by
  obtain ⟨vs, h1, h2⟩ := h
  obtain ⟨b, o, e, hb, hl, hc⟩ := h1.2 (by omega)
  obtain ⟨A', c', h3, h4⟩ := h2 k hk
  exact ⟨b, o, A', c', _, e, hb, hl, hid rfl, h4, hc k _ h3⟩
end
abbrev RdVV := RdOf RdV
abbrev RdVVV := RdOf RdVV
section
variable {D E : Dom} {w w' : World} {A : Option Addr} {c : Nat}
theorem keepVV {l : List (List Mv)} (h : RdVV w D A c l) (hk : Keeps D w w') : RdVV w' D A c l := RdOf.keep (fun _ _ _ h => h.keep hk) h hk
theorem keepVVV {l : List (List (List Mv))} (h : RdVVV w D A c l) (hk : Keeps D w w') : RdVVV w' D A c l := RdOf.keep (fun _ _ _ h => keepVV h hk) h hk
theorem monoVV {l : List (List Mv)} (h : RdVV w D A c l) (hE : ∀ b, D b → b < w.heap.size → E b) : RdVV w E A c l := RdOf.mono (fun _ _ _ h => h.mono hE) h hE
theorem monoVVV {l : List (List (List Mv))} (h : RdVVV w D A c l) (hE : ∀ b, D b → b < w.heap.size → E b) : RdVVV w E A c l := RdOf.mono (fun _ _ _ h => monoVV h hE) h hE
end
/-- The value v is the automaton b. -/
def RdBu (w : World) (D : Dom) (v : Value) (b : Bu) : Prop :=
  ∃ As cs An cn, v = .agg #[.int .i64 b.letters, .slice As b.start.length cs, .slice An b.next.length cn] ∧ RdI w D As cs b.start ∧ RdVVV w D An cn b.next
section
variable {D E : Dom} {w w' : World} {v : Value} {b : Bu}
theorem RdBu.keep (h : RdBu w D v b) (hk : Keeps D w w') : RdBu w' D v b :=
  let ⟨As, cs, An, cn, e, h1, h2⟩ := h
  ⟨As, cs, An, cn, e, h1.keep hk, keepVVV h2 hk⟩
theorem RdBu.mono (h : RdBu w D v b) (hE : ∀ b, D b → b < w.heap.size → E b) : RdBu w E v b :=
  let ⟨As, cs, An, cn, e, h1, h2⟩ := h
  ⟨As, cs, An, cn, e, h1.mono hE, monoVVV h2 hE⟩
theorem RdBu.old (h : RdBu w D v b) : RdBu w (· < w.heap.size) v b := h.mono fun _ _ hl => hl
end

/-- What a node's cells are: its set is the slice s. -/
def ncells (x : Nd) (s : Option Addr × Nat) : List Value := [.int .i64 x.name, .int .i64 x.parent, .slice s.1 x.set.length s.2]
/-- A slice of nodes. -/
def RdN (w : World) (D : Dom) (A : Option Addr) (c : Nat) (t : List Nd) : Prop :=
  ∃ sl : List (Option Addr × Nat), sl.length = t.length ∧ Rd w D 3 A t.length c ((t.zip sl).flatMap fun p => ncells p.1 p.2) ∧ ∀ i, i < t.length → RdI w D (sl.getD i (none, 0)).1 (sl.getD i (none, 0)).2 (t.getD i default).set
section
variable {D E : Dom} {w w' : World} {A : Option Addr} {c : Nat} {t : List Nd}
theorem RdN.nil (w : World) (D : Dom) (A : Option Addr) {c : Nat} (hc : c ≤ 9223372036854775807) : RdN w D A c [] := ⟨[], rfl, Rd.nil w D 3 A hc, fun _ h => absurd h (Nat.not_lt_zero _)⟩
theorem RdN.len (h : RdN w D A c t) : t.length ≤ 140737488355328 ∧ t.length ≤ c ∧ c ≤ 9223372036854775807 := let ⟨_, _, h1, _⟩ := h; h1.1.2
theorem RdN.keep (h : RdN w D A c t) (hk : Keeps D w w') : RdN w' D A c t :=
  let ⟨sl, h0, h1, h2⟩ := h
  ⟨sl, h0, h1.keep hk, fun i hi => (h2 i hi).keep hk⟩
theorem RdN.mono (h : RdN w D A c t) (hE : ∀ b, D b → b < w.heap.size → E b) : RdN w E A c t :=
  let ⟨sl, h0, h1, h2⟩ := h
  ⟨sl, h0, h1.mono hE, fun i hi => (h2 i hi).mono hE⟩
theorem RdN.old (h : RdN w D A c t) : RdN w (· < w.heap.size) A c t := h.mono fun _ _ hl => hl
theorem RdN.get {k : Nat} (h : RdN w D A c t) (hk : k < t.length) : ∃ b o A' c' x, A = some ⟨b, o, none⟩ ∧ D b ∧ b < w.heap.size ∧ Hid (t.getD k default = x) ∧ RdI w D A' c' x.set ∧
    w.cell? ⟨b, o + k * 3, none⟩ = some (.int .i64 x.name) ∧ w.cell? ⟨b, o + k * 3 + 1, none⟩ = some (.int .i64 x.parent) ∧ w.cell? ⟨b, o + k * 3 + 2, none⟩ = some (.slice A' x.set.length c') := by
  obtain ⟨sl, h0, h1, h2⟩ := h
  obtain ⟨b, o, e, hb, hl, hc⟩ := h1.2 (by omega)
  have hz : (t.zip sl).length = t.length := by rw [List.length_zip, h0, Nat.min_self]
  have hg : (t.zip sl).getD k (default, (none, 0)) = (t.getD k default, sl.getD k (none, 0)) := by
    have hs : k < sl.length := by omega
    have hzk : k < (t.zip sl).length := by omega
    rw [List.getD_eq_getElem?_getD, List.getD_eq_getElem?_getD, List.getD_eq_getElem?_getD, List.getElem?_eq_getElem hzk, List.getElem?_eq_getElem hk, List.getElem?_eq_getElem hs]
    exact List.getElem_zip
  have key : ∀ j, j < 3 → ((t.zip sl).flatMap fun p => ncells p.1 p.2)[k * 3 + j]? = (ncells (t.getD k default) (sl.getD k (none, 0)))[j]? := fun j hj => by
    rw [flat_at (default, ((none : Option Addr), 0)) (fun p : Nd × (Option Addr × Nat) => ncells p.1 p.2) 3 (fun _ => rfl) (t.zip sl) k j (by omega) hj, hg]
  have c0 := hc (k * 3 + 0) _ (by rw [key 0 (by omega)]; rfl)
  have c1 := hc (k * 3 + 1) _ (by rw [key 1 (by omega)]; rfl)
  have c2 := hc (k * 3 + 2) _ (by rw [key 2 (by omega)]; rfl)
  exact ⟨b, o, _, _, _, e, hb, hl, hid rfl, h2 k hk, by simpa using c0, by simpa [Nat.add_assoc] using c1, by simpa [Nat.add_assoc] using c2⟩
end
end Go.Proofs.Ythhknonaebnooaa
set_option linter.unusedVariables false
set_option linter.unusedSimpArgs false
namespace Go.Proofs.Ythhknonaebnooaa

/-- Increasing numbers from 0 to n - 1. -/
def incAt (n : Int) (l : List Int) (i : Nat) : Bool := decide (0 ≤ l.getD i 0) && decide (l.getD i 0 < n) && (decide (i = 0) || decide (l.getD (i - 1) 0 < l.getD i 0))
def incB (n : Int) (l : List Int) : Bool := allN l.length (incAt n l)
def beforeB (a b : Mv) : Bool := decide (a.dst < b.dst) || (decide (a.dst = b.dst) && !a.good && b.good)
def movesAt (n : Int) (l : List Mv) (k : Nat) : Bool := decide (0 ≤ (l.getD k default).dst) && decide ((l.getD k default).dst < n) && (decide (k = 0) || beforeB (l.getD (k - 1) default) (l.getD k default))
def movesB (n : Int) (l : List Mv) : Bool := allN l.length (movesAt n l)
def rowOkB (n letters : Int) (row : List (List Mv)) : Bool := decide ((row.length : Int) = letters) && allN row.length fun a => movesB n (row.getD a [])
def buchiB (b : Bu) : Bool := decide (1 ≤ b.letters) && decide (b.letters ≤ 64) && decide (b.next.length ≤ 3000) && incB b.next.length b.start && allN b.next.length fun s => rowOkB b.next.length b.letters (b.next.getD s [])
/-- The moves from a state by a letter. -/
def mvs (b : Bu) (s a : Int) : List Mv := (b.next.getD s.toNat []).getD a.toNat []
def hitB (b : Bu) (set : List Int) (a : Int) (well : Bool) (s : Int) : Bool := set.any fun q => (mvs b q a).any fun m => decide (m.dst = s) && (m.good || !well)
/-- The states reached, in increasing order. -/
def reachZ (b : Bu) (set : List Int) (a : Int) (well : Bool) : List Int := ((List.range b.next.length).map fun i : Nat => (i : Int)).filter (hitB b set a well)
def inB (l : List Int) (n : Int) : Bool := l.any fun x => decide (x = n)
/-- The states of all children of node i. -/
def unionZ (t : List Nd) (i : Int) : List Int := t.flatMap fun x => if x.parent = i then x.set else []
def nd (t : List Nd) (i : Nat) : Nd := t.getD i default
/-- Is node i of a list as it should be? -/
def nodeB (n : Nat) (t : List Nd) (i : Nat) : Bool :=
  decide (1 ≤ (nd t i).name) && decide ((nd t i).name ≤ 2 * (n : Int)) && decide (0 < (nd t i).set.length) && (decide (i = 0) == decide ((nd t i).parent = -1)) && decide ((nd t i).parent < (i : Int)) && decide (-1 ≤ (nd t i).parent) &&
    allN (nd t i).set.length (fun k => decide (0 ≤ (nd t i).set.getD k 0) && decide ((nd t i).set.getD k 0 < (n : Int)) && (decide (k = 0) || decide ((nd t i).set.getD (k - 1) 0 < (nd t i).set.getD k 0)) && (decide (i = 0) || inB (nd t (nd t i).parent.toNat).set ((nd t i).set.getD k 0))) &&
    allN i (fun k => !decide ((nd t k).name = (nd t i).name) && (!decide ((nd t k).parent = (nd t i).parent) || (nd t i).set.all fun s => !inB (nd t k).set s)) &&
    decide ((unionZ t i).length < (nd t i).set.length)
def treeB (b : Bu) (t : List Nd) : Bool := buchiB b && decide (t.length ≤ b.next.length) && allN t.length (nodeB b.next.length t)

/-! The step, on lists. -/
def setAt (t : List Nd) (i : Nat) (s : List Int) : List Nd := t.set i { nd t i with set := s }
/-- The states that node i keeps, after all earlier ones have kept theirs. -/
def trimmedZ (t : List Nd) (i : Nat) : List Int := (nd t i).set.filter fun s => decide (i = 0) || (inB (nd t (nd t i).parent.toNat).set s && (List.range i).all fun n => decide (n = 0) || !decide ((nd t n).parent = (nd t i).parent) || !inB (nd t n).set s)
/-- The list after the first k nodes have kept theirs. -/
def trimTo (t : List Nd) : Nat → List Nd
  | 0 => t
  | k + 1 => setAt (trimTo t k) k (trimmedZ (trimTo t k) k)
/-- The nodes that are marked among the first k, and the new places. -/
def keepTo (t : List Nd) (marked : Nat → Bool) : Nat → List Nd × List Int
  | 0 => ([], List.replicate t.length 0)
  | k + 1 => if marked k then ((keepTo t marked k).1 ++ [{ nd t k with parent := if 0 ≤ (nd t k).parent then (keepTo t marked k).2.getD (nd t k).parent.toNat 0 else (nd t k).parent }], (keepTo t marked k).2.set k ((keepTo t marked k).1.length : Int)) else keepTo t marked k
def keepZ (t : List Nd) (marked : Nat → Bool) : List Nd := (keepTo t marked t.length).1
/-- Is node i below node top? (n: so many steps up at most.) -/
def belowN (t : List Nd) (top : Int) : Nat → Int → Bool
  | 0, _ => false
  | n + 1, i => decide (0 ≤ (nd t i.toNat).parent) && (decide ((nd t i.toNat).parent = top) || belowN t top n (nd t i.toNat).parent)
def belowZ (t : List Nd) (i top : Nat) : Bool := belowN t top t.length i
/-- Nodes whose children have all of their states: their names, and what is below them goes. -/
def flashAt (st : List Nd × List Int) (i : Nat) : List Nd × List Int :=
  if i < st.1.length ∧ (nd st.1 i).set.length ≤ (unionZ st.1 i).length then (keepZ st.1 (fun k => !belowZ st.1 k i), st.2 ++ [(nd st.1 i).name]) else st
def flashTo (t : List Nd) : Nat → List Nd × List Int
  | 0 => (t, [])
  | k + 1 => flashAt (flashTo t k) k
def flashZ (t : List Nd) : List Nd × List Int := flashTo t t.length
def namesZ (t : List Nd) : List Int := t.map fun x => x.name
/-- The least number from n on that is not used (m: so many are tried at most). -/
def freeN (used : List Int) : Nat → Int → Int
  | 0, n => n
  | m + 1, n => if inB used n then freeN used m (n + 1) else n
/-- The first k nodes have names; n: the next number. -/
def nameTo (used : List Int) (t : List Nd) : Nat → List Nd × Int
  | 0 => (t, 1)
  | k + 1 => if 0 < (nd t k).name then nameTo used t k else
    ((nameTo used t k).1.set k { nd (nameTo used t k).1 k with name := freeN used used.length (nameTo used t k).2 }, freeN used used.length (nameTo used t k).2 + 1)
def sortIn (x : Int) : List Int → List Int
  | [] => [x]
  | y :: l => if x < y then x :: y :: l else y :: sortIn x l
def sortZ (l : List Int) : List Int := l.foldl (fun out x => sortIn x out) []
/-- What Step returns: the tree, and the names that are good and bad. -/
structure StepR where
  tree : List Nd
  good : List Int
  bad : List Int
def grownZ (b : Bu) (t : List Nd) (a : Int) : List Nd := (t.map fun x => { x with set := reachZ b x.set a false }) ++ (List.range t.length).map fun i : Nat => ⟨0, (i : Int), reachZ b (nd t i).set a true⟩
def stepZ (b : Bu) (t : List Nd) (a : Int) : StepR :=
  let l := trimTo (grownZ b t a) (2 * t.length)
  let f := flashZ (keepZ l fun i => decide (0 < (nd l i).set.length))
  ⟨(nameTo (namesZ t) f.1 f.1.length).1, sortZ f.2, sortZ ((namesZ t).filter fun n => !inB (namesZ f.1) n)⟩
end Go.Proofs.Ythhknonaebnooaa
set_option linter.unusedVariables false
set_option linter.unusedSimpArgs false
namespace Go.Proofs.Ythhknonaebnooaa
open Go.RowKit
attribute [local go_sem] cell_alloc_old

theorem inB_at {l : List Int} {n : Int} {k : Nat} (hk : k < l.length) (h : l.getD k 0 = n) : inB l n = true := by
  unfold inB
  rw [List.any_eq_true]
  exact ⟨l[k], List.getElem_mem hk, by rw [decide_eq_true_eq, ← h]; simp [List.getD, hk]⟩
theorem inB_none {l : List Int} {n : Int} (h : ∀ k, k < l.length → l.getD k 0 ≠ n) : inB l n = false := by
  unfold inB
  rw [List.any_eq_false]
  intro x hx
  obtain ⟨k, hk, rfl⟩ := List.getElem_of_mem hx
  have := h k hk
  simp only [List.getD_eq_getElem?_getD, List.getElem?_eq_getElem hk, Option.getD_some] at this
  simpa using this
theorem inB_iff {l : List Int} {n : Int} : inB l n = true ↔ n ∈ l := by
  unfold inB
  rw [List.any_eq_true]
  exact ⟨fun ⟨x, hx, h⟩ => by rw [decide_eq_true_eq] at h; rw [← h]; exact hx, fun h => ⟨n, h, by simp⟩⟩
set_option maxHeartbeats 800000 in
theorem in_any {D : Dom} (A : Option Addr) (c : Nat) (l : List Int) (n : Int) (w : World) (h : RdI w D A c l) :
    Calls Try.prog 26 #[.slice A l.length c, .int .i64 n] w fun e w' => e = .returned (.bool (inB l n)) ∧ w' = w := by
  have hm := h.len.1
  have HR := hid h
  clear h
  go_enter Try.func26, Try.ntmps26
  go_wp2
  go_loop [5] (fun t => ∃ k : Nat, k ≤ l.length ∧ t = .int .i64 k ∧ SoFar k (fun j => !decide (l.getD j 0 = n))) (fun t => l.length - (intOf t).toNat)
  case atStart => exact ⟨0, Nat.zero_le _, rfl, SoFar.zero _⟩
  case round =>
    obtain ⟨k, hk, rfl, hb⟩ := hrel
    have HB := hid hb
    clear hb
    by_cases hlt : k < l.length
    · obtain ⟨b, o, x, rfl, _, _, HX, hc⟩ := HR.out.get hlt
      by_cases hx : x = n
      · have hxe : (x == n) = true := beq_iff_eq.2 hx
        have HE := hid hx
        clear hx
        go_wp2
        go_ret
        exact ⟨ret_bool (inB_at hlt (by rw [HX.out, HE.out])).symm, rfl⟩
      · have hxe : (x == n) = false := beq_eq_false_iff_ne.2 hx
        have HE := hid hx
        clear hx
        go_wp2
        go_round
        case rel => exact ⟨k + 1, by omega, by go_num, HB.out.succ (by rw [HX.out]; simp [HE.out])⟩
        case measure => simp [intOf]; omega
    · go_wp2
      go_ret
      exact ⟨ret_bool (inB_none fun j hj => by have := HB.out j (by omega); simpa using this).symm, rfl⟩

def smallTB (t : List Nd) : Bool := decide (t.length ≤ 20) && allN t.length fun i => decide ((nd t i).set.length ≤ 20)
set_option maxHeartbeats 800000 in
theorem smallt_any {D : Dom} (A : Option Addr) (c : Nat) (t : List Nd) (w : World) (h : RdN w D A c t) :
    Calls Try.prog 11 #[.slice A t.length c] w fun e w' => e = .returned (.bool (smallTB t)) ∧ w' = w := by
  have hm := h.len.1
  have HR := hid h
  clear h
  by_cases hs : t.length ≤ 20
  · have hd : decide ((20 : Int) < (t.length : Int)) = false := decide_eq_false (by omega)
    go_enter Try.func11, Try.ntmps11
    go_wp2
    go_loop [3] (fun s => ∃ k : Nat, k ≤ t.length ∧ s = .int .i64 k ∧ SoFar k (fun i => decide ((nd t i).set.length ≤ 20))) (fun s => t.length - (intOf s).toNat)
    case atStart => exact ⟨0, Nat.zero_le _, rfl, SoFar.zero _⟩
    case round =>
      obtain ⟨k, hk, rfl, hb⟩ := hrel
      have HB := hid hb
      clear hb
      by_cases hlt : k < t.length
      · obtain ⟨b, o, A', c', x, rfl, _, _, HX, hr, h0, h1, h2⟩ := HR.out.get hlt
        have hrl := hr.len.1
        clear hr
        by_cases hx : x.set.length ≤ 20
        · go_wp2
          go_round
          case rel => exact ⟨k + 1, by omega, by go_num, HB.out.succ (by unfold nd; rw [HX.out]; simp; omega)⟩
          case measure => simp [intOf]; omega
        · go_wp2
          go_ret
          exact ⟨ret_bool (by unfold smallTB; rw [allN_false hlt (by unfold nd; rw [HX.out]; simp; omega)]; simp), rfl⟩
      · go_wp2
        go_ret
        exact ⟨ret_bool (by unfold smallTB; rw [HB.out.all (by omega)]; simp; omega), rfl⟩
  · have hd : decide ((20 : Int) < (t.length : Int)) = true := decide_eq_true (by omega)
    go_enter Try.func11, Try.ntmps11
    go_wp2
    go_ret
    exact ⟨ret_bool (by unfold smallTB; simp; omega), rfl⟩
set_option maxHeartbeats 400000 in
theorem ints_any {D E : Dom} (A B : Option Addr) (c d : Nat) (xs ys : List Int) (w : World) (hx : RdI w D A c xs) (hy : RdI w E B d ys) :
    Calls Try.prog 23 #[.slice A xs.length c, .slice B ys.length d] w fun e w' => e = .returned (.bool (decide (xs = ys))) ∧ Drawn w w' := by
  have hm := hx.len.1
  have HXS := hid hx
  have HYS := hid hy
  clear hx hy
  by_cases hn : xs.length = ys.length
  · have hne : ((xs.length : Int) != (ys.length : Int)) = false := by simp [hn]
    have HN := hid hn
    have hle : ys.length ≤ xs.length := by omega
    clear hn
    go_enter Try.func23, Try.ntmps23
    go_wp2
    go_loopw [5] (fun t wr => ∃ k : Nat, k ≤ xs.length ∧ t = .int .i64 k ∧ SoFar k (fun j => decide (xs.getD j 0 = ys.getD j 0)) ∧ Drawn w wr) (fun t _ => xs.length - (intOf t).toNat)
    case atStart => exact ⟨0, Nat.zero_le _, rfl, SoFar.zero _, Drawn.refl w⟩
    case round =>
      obtain ⟨k, hk, rfl, hb, hd⟩ := hrel
      have HB := hid hb
      clear hb
      by_cases hlt : k < xs.length
      · have hlt2 : k < ys.length := by have := HN.out; omega
        obtain ⟨b, o, x, rfl, _, _, HX, hc⟩ := (HXS.out.keep hd.keeps).get hlt
        obtain ⟨b', o', y, rfl, _, _, HY, hc'⟩ := (HYS.out.keep hd.keeps).get hlt2
        go_wp2
        go_quiet (fail)
        by_cases he : x = y
        · have hne : (x != y) = false := by simp [he]
          have HE := hid he
          clear he
          go_wp2
          go_roundw
          case rel => exact ⟨k + 1, by omega, by go_num, HB.out.succ (by rw [HX.out, HY.out]; simp [HE.out]), hd.drewN _⟩
          case measure => simp [intOf]; omega
        · have hne : (x != y) = true := by simp [he]
          have HE := hid he
          clear he
          go_wp2
          go_ret
          refine ⟨ret_bool ?_, hd.drewN _⟩
          refine (decide_eq_false fun h => HE.out ?_).symm
          rw [← HX.out, ← HY.out, h]
      · go_wp2
        go_ret
        refine ⟨ret_bool ?_, hd⟩
        refine (decide_eq_true ?_).symm
        refine List.ext_getElem HN.out fun j h1 h2 => ?_
        have := HB.out j (by omega)
        simpa [List.getD, h1, h2] using this
  · have hne : ((xs.length : Int) != (ys.length : Int)) = true := bne_iff_ne.2 (by omega)
    have HN := hid hn
    clear hn
    go_enter Try.func23, Try.ntmps23
    go_wp2
    go_ret
    exact ⟨ret_bool (decide_eq_false fun h => HN.out (by rw [h])).symm, Drawn.refl w⟩

theorem before_any (a b : Mv) (w : World) : Calls Try.prog 49 #[.agg #[.int .i64 a.dst, .bool a.good], .agg #[.int .i64 b.dst, .bool b.good]] w fun e w' => e = .returned (.bool (beforeB a b)) ∧ Below w.heap.size w w' := by
  by_cases h1 : a.dst < b.dst
  · have hd : decide (a.dst < b.dst) = true := decide_eq_true h1
    go_enter Try.func49, Try.ntmps49
    go_wp2_with fail
    go_ret
    exact ⟨ret_bool (by unfold beforeB; simp [h1]), by go_grown⟩
  · have hd : decide (a.dst < b.dst) = false := decide_eq_false h1
    by_cases h2 : a.dst = b.dst
    · have he : (a.dst == b.dst) = true := beq_iff_eq.2 h2
      have H2 := hid h2
      clear h2
      obtain ⟨a1, a2⟩ := a
      obtain ⟨b1, b2⟩ := b
      cases a2 <;> cases b2 <;>
      · go_enter Try.func49, Try.ntmps49
        go_wp2_with fail
        go_ret
        exact ⟨ret_bool (by have := H2.out; unfold beforeB; simp_all), by go_grown⟩
    · have he : (a.dst == b.dst) = false := beq_eq_false_iff_ne.2 h2
      have H2 := hid h2
      clear h2
      go_enter Try.func49, Try.ntmps49
      go_wp2_with fail
      go_ret
      exact ⟨ret_bool (by have := H2.out; unfold beforeB; simp [h1, this]), by go_grown⟩
end Go.Proofs.Ythhknonaebnooaa
set_option linter.unusedVariables false
set_option linter.unusedSimpArgs false
namespace Go.Proofs.Ythhknonaebnooaa
open Go.RowKit
attribute [local go_sem] cell_alloc_old

/-- Block k holds the automaton b. -/
structure HasB (w : World) (k : Nat) (cs : Array Value) (b : Bu) : Prop where
  blk : w.heap[k]? = some (.cells cs 25 (0, 0))
  rd : RdBu w (· < w.heap.size) (.agg cs) b
theorem HasB.below {w w' : World} {k : Nat} {cs : Array Value} {b : Bu} (h : HasB w k cs b) (hb : Below w.heap.size w w') : HasB w' k cs b :=
  ⟨(hb.block _ (lt_of_block h.blk)).trans h.blk, (h.rd.keep (Keeps.of_below hb (fun _ h => h))).mono (fun _ hb2 _ => Nat.lt_of_lt_of_le hb2 hb.size)⟩
theorem HasB.cells {w : World} {k : Nat} {x0 x1 x2 : Value} {b : Bu} (h : HasB w k #[x0, x1, x2] b) : w.cell? ⟨k, 0, none⟩ = some x0 ∧ w.cell? ⟨k, 1, none⟩ = some x1 ∧ w.cell? ⟨k, 2, none⟩ = some x2 ∧ k < w.heap.size :=
  ⟨block_cell h.blk rfl, block_cell h.blk rfl, block_cell h.blk rfl, lt_of_block h.blk⟩
theorem HasB.new {w : World} {D : Dom} {cs : Array Value} {b : Bu} (h : RdBu w D (.agg cs) b) : HasB (w.alloc (.cells cs 25)) w.heap.size cs b :=
  ⟨heap_alloc_new w _, (h.old.keep ((Keeps.refl _ w).alloc _)).mono (fun b hb _ => by have : b < w.heap.size := hb; simp; omega)⟩
theorem HasB.parts {w : World} {k : Nat} {As An : Option Addr} {cs cn : Nat} {x0 : Value} {n m : Nat} {b : Bu} (h : HasB w k #[x0, .slice As n cs, .slice An m cn] b) : RdI w (· < w.heap.size) As cs b.start ∧ RdVVV w (· < w.heap.size) An cn b.next := by
  obtain ⟨As', cs', An', cn', e, h1, h2⟩ := h.rd
  injection e with e
  injection e with e
  simp only [List.cons.injEq, and_true] at e
  obtain ⟨_, e1, e2⟩ := e
  injection e1 with a1 a2 a3
  injection e2 with b1 b2 b3
  rw [a1, a3, b1, b3]
  exact ⟨h1, h2⟩

def fewB (b : Bu) : Bool := decide (b.letters ≤ 20) && decide (b.start.length ≤ 20) && decide (b.next.length ≤ 10) && allN b.next.length fun s => decide ((b.next.getD s []).length ≤ 20) && allN (b.next.getD s []).length fun a => decide (((b.next.getD s []).getD a []).length ≤ 20)
set_option maxHeartbeats 4000000 in
theorem few_any {D : Dom} (v : Value) (b : Bu) (w : World) (h : RdBu w D v b) :
    Calls Try.prog 10 #[v] w fun e w' => e = .returned (.bool (fewB b)) ∧ Below w.heap.size w w' := by
  have HV := hid h.old
  obtain ⟨As, cs, An, cn, rfl, hs, hn⟩ := h
  have hsl := hs.len.1
  have hnl := hn.len.1
  clear hs hn
  by_cases hsz : b.letters ≤ 20 ∧ b.start.length ≤ 20 ∧ b.next.length ≤ 10
  · obtain ⟨z1, z2, z3⟩ := hsz
    have d1 : decide ((20 : Int) < b.letters) = false := decide_eq_false (by omega)
    have d2 : decide ((20 : Int) < (b.start.length : Int)) = false := decide_eq_false (by omega)
    have d3 : decide ((10 : Int) < (b.next.length : Int)) = false := decide_eq_false (by omega)
    go_enter Try.func10, Try.ntmps10
    go_upto_region 1 with (fail)
    refine wp_gen fun W hW => ?_
    have hB : HasB W w.heap.size #[.int .i64 b.letters, .slice As b.start.length cs, .slice An b.next.length cn] b := by rw [hW]; exact HasB.new HV.out
    have HB := hid hB
    have HBW := hid (show Below w.heap.size w W by rw [hW]; go_grown)
    obtain ⟨x0, x1, x2, xl⟩ := hB.cells
    have HN := hid hB.parts.2
    clear hW hB
    go_wp2_with fail
    go_loop [3] (fun t => ∃ k : Nat, k ≤ b.next.length ∧ t = .int .i64 k ∧ SoFar k (fun s => decide ((b.next.getD s []).length ≤ 20) && allN (b.next.getD s []).length fun a => decide (((b.next.getD s []).getD a []).length ≤ 20))) (fun t => b.next.length - (intOf t).toNat)
    case atStart => exact ⟨0, Nat.zero_le _, rfl, SoFar.zero _⟩
    case round =>
      obtain ⟨k, hk, rfl, hb⟩ := hrel
      have HS := hid hb
      clear hb
      by_cases hlt : k < b.next.length
      · obtain ⟨g, o, A', c', r, rfl, _, hgl, HX, hr, hc⟩ := HN.out.get hlt
        have hrl := hr.len.1
        have HR := hid hr
        have hki : (k : Int) < b.next.length := by omega
        clear hr
        by_cases hx : r.length ≤ 20
        · have d4 : decide ((20 : Int) < (r.length : Int)) = false := decide_eq_false (by omega)
          go_wp2_with fail
          go_loop [4] (fun t => ∃ a : Nat, a ≤ r.length ∧ t = .int .i64 a ∧ SoFar a (fun a => decide ((r.getD a []).length ≤ 20))) (fun t => r.length - (intOf t).toNat)
          case atStart => exact ⟨0, Nat.zero_le _, rfl, SoFar.zero _⟩
          case round =>
            obtain ⟨a, ha, rfl, hb2⟩ := hrel
            have HS2 := hid hb2
            clear hb2
            by_cases hla : a < r.length
            · obtain ⟨g2, o2, A2, c2, l, rfl, _, hgl2, HX2, hr2, hc2⟩ := HR.out.get hla
              have hrl2 := hr2.len.1
              have hai : (a : Int) < r.length := by omega
              clear hr2
              by_cases hy : l.length ≤ 20
              · go_wp2_with fail
                go_round
                case rel => exact ⟨a + 1, by omega, by go_num, HS2.out.succ (by rw [HX2.out]; simp; omega)⟩
                case measure => simp [intOf]; omega
              · go_wp2_with fail
                go_ret
                exact ⟨ret_bool (by unfold fewB; rw [allN_false hlt (by rw [HX.out, allN_false hla (by rw [HX2.out]; simp; omega)]; simp)]; simp), HBW.out⟩
            · go_wp2_with fail
              go_round
              case rel => exact ⟨k + 1, by omega, by go_num, HS.out.succ (by rw [HX.out, HS2.out.all (by omega)]; simp; omega)⟩
              case measure => simp [intOf]; omega
        · have d4 : decide ((20 : Int) < (r.length : Int)) = true := decide_eq_true (by omega)
          go_wp2_with fail
          go_ret
          exact ⟨ret_bool (by unfold fewB; rw [allN_false hlt (by rw [HX.out]; simp; omega)]; simp), HBW.out⟩
      · go_wp2_with fail
        go_ret
        exact ⟨ret_bool (by unfold fewB; rw [HS.out.all (by omega)]; simp [z1, z2, z3]), HBW.out⟩
  · have HSZ := hid hsz
    clear hsz
    go_enter Try.func10, Try.ntmps10
    go_wp2_with fail
    all_goals first
      | (exfalso; have := HSZ.out; omega)
      | (go_ret; refine ⟨ret_bool ?_, by go_grown⟩; symm; unfold fewB; have := HSZ.out; simp only [Bool.and_eq_false_iff, decide_eq_false_iff_not]; omega)
end Go.Proofs.Ythhknonaebnooaa
