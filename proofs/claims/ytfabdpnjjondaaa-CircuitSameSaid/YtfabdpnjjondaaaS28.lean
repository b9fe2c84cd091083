/-
  Circuits as plain functions: what the code of layer 28 computes, with no program in sight.
-/
import Derived.Test.YtfabdpnjjondaaaBase
set_option linter.unusedVariables false
set_option linter.unusedSimpArgs false
namespace Go.Proofs.Ytfabdpnjjondaaa

/-- All numbers are from 0 to n - 1. -/
def belowB (n : Int) (xs : List Int) : Bool := allN xs.length fun j => decide (0 ≤ xs.getD j 0) && decide (xs.getD j 0 < n)

structure Gt where
  k : Int
  a : Int
  b : Int
deriving DecidableEq

instance : Inhabited Gt := ⟨⟨0, 0, 0⟩⟩

structure Cir where
  ib : Int
  gates : List Gt
  lat : List Int
  outs : List Int

structure Mly where
  ins : Int
  outs : Int
  start : Int
  out : List (List Int)
  next : List (List Int)

def gateB (ib nl i : Int) (g : Gt) : Bool :=
  if g.k = 1 then decide (g.a = 0) && decide (g.b = 0)
  else if g.k = 2 then decide (0 ≤ g.a) && decide (g.a < ib) && decide (g.b = 0)
  else if g.k = 3 then decide (0 ≤ g.a) && decide (g.a < nl) && decide (g.b = 0)
  else if g.k = 4 then decide (0 ≤ g.a) && decide (g.a < g.b) && decide (g.b < i)
  else if g.k = 5 then decide (0 ≤ g.a) && decide (g.a < i) && decide (g.b = 0)
  else false

def pow2 : Nat → Int
  | 0 => 1
  | n + 1 => 2 * pow2 n

/-- The least number of bits for n values; the search begins at b. -/
def bitsFrom (n : Int) : Nat → Nat → Nat
  | 0, b => b
  | f + 1, b => if pow2 b < n then bitsFrom n f (b + 1) else b
def bitsN (n : Int) : Nat := bitsFrom n 63 0

def bitZ (n : Int) (i : Nat) : Int := n / pow2 i % 2

def numTo (vs gates : List Int) : Nat → Int
  | 0 => 0
  | k + 1 => numTo vs gates k + pow2 k * vs.getD (gates.getD k 0).toNat 0
def numZ (vs gates : List Int) : Int := numTo vs gates gates.length

def rowB (n most : Int) (l : List Int) : Bool := decide ((l.length : Int) = n) && belowB most l
def rowsB (n most : Int) (l : List (List Int)) : Bool := allN l.length fun j => rowB n most (l.getD j [])
def mealyB (m : Mly) : Bool :=
  decide (1 ≤ m.ins) && decide (m.ins ≤ 64) && decide (1 ≤ m.outs) && decide (m.outs ≤ 64) && decide (m.out.length ≤ 3000) && decide (0 ≤ m.start) && decide (m.start < m.out.length) &&
    decide (m.next.length = m.out.length) && rowsB m.ins m.outs m.out && rowsB m.ins m.out.length m.next
def fewB (c : Cir) : Bool := decide (c.gates.length ≤ 60) && decide (c.lat.length ≤ 20) && decide (c.outs.length ≤ 20)
def fewM (m : Mly) : Bool := decide (m.out.length ≤ 12) && decide (m.next.length ≤ 12) && decide (m.ins ≤ 20) && allN m.out.length (fun i => decide ((m.out.getD i []).length ≤ 20)) &&
  allN m.next.length (fun i => decide ((m.next.getD i []).length ≤ 20))
def compiledZ (m : Mly) : Int := if mealyB m then (if 512 < (m.next.length : Int) * m.ins then 2 else 0) else 1
def rightB (m : Mly) (ins : List Int) : Bool := fewM m && mealyB m && decide (ins.length ≤ 24) && belowB m.ins ins
def eqB (a b : List Int) : Bool := decide (a = b)

def validB (c : Cir) : Bool :=
  decide (0 ≤ c.ib) && decide (c.ib ≤ 6) && decide (c.lat.length ≤ 12) && decide (c.outs.length ≤ 6) && decide (c.gates.length ≤ 20000) &&
    allN c.gates.length (fun i => gateB c.ib c.lat.length i (c.gates.getD i default)) && belowB c.gates.length c.lat && belowB c.gates.length c.outs

def valOf (lat inp : Int) (vs : List Int) (g : Gt) : Int :=
  if g.k = 2 then bitZ inp g.a.toNat
  else if g.k = 3 then bitZ lat g.a.toNat
  else if g.k = 4 then vs.getD g.a.toNat 0 * vs.getD g.b.toNat 0
  else if g.k = 5 then 1 - vs.getD g.a.toNat 0
  else 0
def valsTo (gs : List Gt) (lat inp : Int) : Nat → List Int
  | 0 => []
  | k + 1 => valsTo gs lat inp k ++ [valOf lat inp (valsTo gs lat inp k) (gs.getD k default)]
def valsZ (c : Cir) (lat inp : Int) : List Int := valsTo c.gates lat inp c.gates.length
def stepC (c : Cir) (lat inp : Int) : Int × Int := (numZ (valsZ c lat inp) c.outs, numZ (valsZ c lat inp) c.lat)
def fitsB (c : Cir) (lat inp : Int) : Bool := decide (0 ≤ lat) && decide (lat < pow2 c.lat.length) && decide (0 ≤ inp) && decide (inp < pow2 c.ib.toNat)
/-- Step, wherever it is called. -/
def stepZ (c : Cir) (lat inp : Int) : Int × Int := if validB c && fitsB c lat inp then stepC c lat inp else (0, 0)

/-- The latches before input number k, the outputs of the first k inputs. -/
def latTo (c : Cir) (ins : List Int) : Nat → Int
  | 0 => 0
  | k + 1 => (stepC c (latTo c ins k) (ins.getD k 0)).2
def outsTo (c : Cir) (ins : List Int) : Nat → List Int
  | 0 => []
  | k + 1 => outsTo c ins k ++ [(stepC c (latTo c ins k) (ins.getD k 0)).1]
def runZ (c : Cir) (ins : List Int) : List Int := if validB c && belowB (pow2 c.ib.toNat) ins then outsTo c ins ins.length else []
theorem outsTo_len (c : Cir) (ins : List Int) : ∀ k, (outsTo c ins k).length = k
  | 0 => rfl
  | k + 1 => by simp [outsTo, outsTo_len c ins k]

theorem bitZ_01 (n : Int) (i : Nat) : bitZ n i = 0 ∨ bitZ n i = 1 := by unfold bitZ; omega
theorem valsTo_len (gs : List Gt) (lat inp : Int) : ∀ k, (valsTo gs lat inp k).length = k
  | 0 => rfl
  | k + 1 => by simp [valsTo, valsTo_len gs lat inp k]
theorem valOf_01 (lat inp : Int) (vs : List Int) (g : Gt) (h : ∀ j, vs.getD j 0 = 0 ∨ vs.getD j 0 = 1) : valOf lat inp vs g = 0 ∨ valOf lat inp vs g = 1 := by
  unfold valOf
  have ha := h g.a.toNat
  have hb := h g.b.toNat
  have h1 := bitZ_01 inp g.a.toNat
  have h2 := bitZ_01 lat g.a.toNat
  (repeat' split)
  · exact h1
  · exact h2
  · rcases ha with e | e <;> rcases hb with e' | e' <;> rw [e, e'] <;> simp
  · omega
  · simp
theorem getD_snoc {α : Type} (l : List α) (x d : α) (j : Nat) : (l ++ [x]).getD j d = if j < l.length then l.getD j d else if j = l.length then x else d := by
  simp only [List.getD, List.getElem?_append]
  split
  · rfl
  · split
    · rename_i h h2; subst h2; simp
    · rename_i h h2
      rw [List.getElem?_eq_none (by simp; omega)]; rfl
theorem valsTo_01 (gs : List Gt) (lat inp : Int) : ∀ k j, (valsTo gs lat inp k).getD j 0 = 0 ∨ (valsTo gs lat inp k).getD j 0 = 1
  | 0, j => by simp [valsTo]
  | k + 1, j => by
    rw [valsTo, getD_snoc]
    have h := valsTo_01 gs lat inp k
    (repeat' split)
    · exact h j
    · exact valOf_01 lat inp _ _ h
    · simp

/-! Circuits and controllers in memory. -/
open Go.RowKit
def gcells (g : Gt) : List Value := [.int .i64 g.k, .int .i64 g.a, .int .i64 g.b]
theorem flat3_get : ∀ (gs : List Gt) (k j : Nat) (h : k < gs.length), j < 3 → (gs.flatMap gcells)[k * 3 + j]? = (gcells (gs.getD k default))[j]?
  | [], k, j, h, _ => absurd h (Nat.not_lt_zero _)
  | g :: gs, 0, j, _, hj => by
    rw [List.flatMap_cons, List.getElem?_append_left (by simp [gcells]; omega)]
    simp
  | g :: gs, k + 1, j, h, hj => by
    rw [List.flatMap_cons, List.getElem?_append_right (by simp [gcells]; omega)]
    have e : (k + 1) * 3 + j - (gcells g).length = k * 3 + j := by simp [gcells]; omega
    rw [e, flat3_get gs k j (by simpa using h) hj]
    simp
def RdG (w : World) (D : Dom) (A : Option Addr) (c : Nat) (gs : List Gt) : Prop := Rd w D 3 A gs.length c (gs.flatMap gcells)
section
variable {D E : Dom} {w w' : World} {A : Option Addr} {c : Nat} {gs : List Gt}
theorem RdG.len (h : RdG w D A c gs) : gs.length ≤ 140737488355328 ∧ gs.length ≤ c ∧ c ≤ 9223372036854775807 := h.1.2
theorem RdG.keep (h : RdG w D A c gs) (hk : Keeps D w w') : RdG w' D A c gs := Rd.keep h hk
theorem RdG.mono (h : RdG w D A c gs) (hE : ∀ b, D b → b < w.heap.size → E b) : RdG w E A c gs := Rd.mono h hE
theorem RdG.old (h : RdG w D A c gs) : RdG w (· < w.heap.size) A c gs := Rd.old h
theorem RdG.get {k : Nat} (h : RdG w D A c gs) (hk : k < gs.length) : ∃ b o g, A = some ⟨b, o, none⟩ ∧ D b ∧ b < w.heap.size ∧ Hid (gs.getD k default = g) ∧
    w.cell? ⟨b, o + k * 3, none⟩ = some (.int .i64 g.k) ∧ w.cell? ⟨b, o + k * 3 + 1, none⟩ = some (.int .i64 g.a) ∧ w.cell? ⟨b, o + k * 3 + 2, none⟩ = some (.int .i64 g.b) := by
  obtain ⟨b, o, e, hb, hl, hc⟩ := h.2 (by omega)
  refine ⟨b, o, _, e, hb, hl, hid rfl, ?_, ?_, ?_⟩
  · simpa using hc (k * 3 + 0) _ (by rw [flat3_get gs k 0 hk (by omega)]; rfl)
  · simpa [Nat.add_assoc] using hc (k * 3 + 1) _ (by rw [flat3_get gs k 1 hk (by omega)]; rfl)
  · simpa [Nat.add_assoc] using hc (k * 3 + 2) _ (by rw [flat3_get gs k 2 hk (by omega)]; rfl)
end

/-- The value v is the circuit c. -/
def RdC (w : World) (D : Dom) (v : Value) (c : Cir) : Prop :=
  ∃ Ag cg Al cl Ao co, v = .agg #[.int .i64 c.ib, .slice Ag c.gates.length cg, .slice Al c.lat.length cl, .slice Ao c.outs.length co] ∧
    RdG w D Ag cg c.gates ∧ RdI w D Al cl c.lat ∧ RdI w D Ao co c.outs
/-- The value v is the controller m. -/
def RdM (w : World) (D : Dom) (v : Value) (m : Mly) : Prop :=
  ∃ Ao co An cn, v = .agg #[.int .i64 m.ins, .int .i64 m.outs, .int .i64 m.start, .slice Ao m.out.length co, .slice An m.next.length cn] ∧
    RdII w D Ao co m.out ∧ RdII w D An cn m.next
section
variable {D E : Dom} {w w' : World} {v : Value} {c : Cir} {m : Mly}
theorem RdC.keep (h : RdC w D v c) (hk : Keeps D w w') : RdC w' D v c :=
  let ⟨Ag, cg, Al, cl, Ao, co, e, h1, h2, h3⟩ := h
  ⟨Ag, cg, Al, cl, Ao, co, e, h1.keep hk, h2.keep hk, h3.keep hk⟩
theorem RdC.mono (h : RdC w D v c) (hE : ∀ b, D b → b < w.heap.size → E b) : RdC w E v c :=
  let ⟨Ag, cg, Al, cl, Ao, co, e, h1, h2, h3⟩ := h
  ⟨Ag, cg, Al, cl, Ao, co, e, h1.mono hE, h2.mono hE, h3.mono hE⟩
theorem RdC.old (h : RdC w D v c) : RdC w (· < w.heap.size) v c := h.mono fun _ _ hl => hl
theorem RdM.old (h : RdM w D v m) : RdM w (· < w.heap.size) v m :=
  let ⟨Ao, co, An, cn, e, h1, h2⟩ := h
  ⟨Ao, co, An, cn, e, h1.old, h2.old⟩
theorem RdM.keep (h : RdM w D v m) (hk : Keeps D w w') : RdM w' D v m :=
  let ⟨Ao, co, An, cn, e, h1, h2⟩ := h
  ⟨Ao, co, An, cn, e, h1.keep hk, h2.keep hk⟩
theorem RdM.mono (h : RdM w D v m) (hE : ∀ b, D b → b < w.heap.size → E b) : RdM w E v m :=
  let ⟨Ao, co, An, cn, e, h1, h2⟩ := h
  ⟨Ao, co, An, cn, e, h1.mono hE, h2.mono hE⟩
end
end Go.Proofs.Ytfabdpnjjondaaa
