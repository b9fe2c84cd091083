/-
  The table of a controller: plain form; walks of code, newTable's parts.
-/
import Derived.Test.YtfabdpnjjondaaaG8
set_option linter.unusedVariables false
set_option linter.unusedSimpArgs false
namespace Go.Proofs.Ytfabdpnjjondaaa
open Go.RowKit
attribute [local go_sem] cell_alloc_old build_g1 build_g2 build_g3

/-- The gates of kind kind with numbers n - 1 .. 0, added one by one. -/
def varsFrom (kind : Int) : Nat → List Int × GS → List Int × GS
  | 0, s => s
  | n + 1, s => varsFrom kind n (s.1 ++ [(addG s.2 ⟨kind, n, 0⟩).1], (addG s.2 ⟨kind, n, 0⟩).2)
def codeZ (st q : Int) : Int := if q = st then 0 else if q = 0 then st else q
def inW (m : Mly) : Nat := bitsN m.ins
def laW (m : Mly) : Nat := bitsN m.out.length
def newVars (m : Mly) : List Int × GS := varsFrom 2 (inW m) (varsFrom 3 (laW m) ([], []))
/-- Row number r of the table: the state and the input. -/
def pairN (m : Mly) (r : Nat) : Int × Int :=
  if ((r / 2 ^ inW m : Nat) : Int) < m.out.length ∧ ((r % 2 ^ inW m : Nat) : Int) < m.ins then (codeZ m.start (r / 2 ^ inW m : Nat), (r % 2 ^ inW m : Nat)) else (-1, 0)
def pairsTo (m : Mly) (k : Nat) : List (Int × Int) := (List.range k).map (pairN m)
def pcells (p : Int × Int) : List Value := [.int .i64 p.1, .int .i64 p.2]

theorem code_any (w : World) (bt : Nat) (st q : Int) (hc : w.cell? ⟨bt, 1, none⟩ = some (.int .i64 st)) :
    Calls Try.prog 42 #[.pointer (some ⟨bt, 0, none⟩), .int .i64 q] w fun e w' => e = .returned (.int .i64 (codeZ st q)) ∧ w' = w := by
  have hl := World.block_lt_of_cell? w _ hc
  by_cases h1 : q = st
  · have e1 : (q == st) = true := beq_iff_eq.2 h1
    have HC : Hid (codeZ st q = 0) := hid (if_pos h1)
    clear h1
    go_enter Try.func42, Try.ntmps42
    go_wp2_with fail
    go_ret
    rw [HC.out]
    exact ⟨rfl, rfl⟩
  · have e1 : (q == st) = false := beq_eq_false_iff_ne.2 h1
    by_cases h2 : q = 0
    · have e2 : (q == 0) = true := beq_iff_eq.2 h2
      have HC : Hid (codeZ st q = st) := hid (by unfold codeZ; rw [if_neg h1, if_pos h2])
      clear h1 h2
      go_enter Try.func42, Try.ntmps42
      go_wp2_with fail
      go_ret
      rw [HC.out]
      exact ⟨rfl, rfl⟩
    · have e2 : (q == 0) = false := beq_eq_false_iff_ne.2 h2
      have HC : Hid (codeZ st q = q) := hid (by unfold codeZ; rw [if_neg h1, if_neg h2])
      clear h1 h2
      go_enter Try.func42, Try.ntmps42
      go_wp2_with fail
      go_ret
      rw [HC.out]
      exact ⟨rfl, rfl⟩

/-- The table in memory while newTable fills it: block bt; n is the number of rows, prs the rows laid so far. -/
structure NT (w wr : World) (bt bg : Nat) (st : Int) (vars : List Int) (gs : GS) (F : Dom) (A : Option Addr) (c : Nat) (n : Int) (R : Option Addr) (rc : Nat) (prs : List (Int × Int)) : Prop where
  blk : wr.heap[bt]? = some (.cells #[.pointer (some ⟨bg, 0, none⟩), .int .i64 st, .slice A vars.length c, .int .i64 n, .slice R prs.length rc] 63 (0, 0))
  gat : Gat wr bg gs F
  own : wr.ownsRow w.heap.size 3 1 (.slice A vars.length c) vars.length (vars.map (.int .i64))
  rown : wr.ownsRow w.heap.size 74 2 (.slice R prs.length rc) prs.length (prs.flatMap pcells)
  low : ∀ b, F b → w.heap.size ≤ b
  nbt : ¬ F bt
  nown : ∀ b, F b → some b ≠ (Value.slice A vars.length c).ownBlock
  nrown : ∀ b, F b → some b ≠ (Value.slice R prs.length rc).ownBlock
  bel : Below w.heap.size w wr
  lt : w.heap.size ≤ bt
  bsz : w.heap.size ≤ wr.heap.size

section
variable {w wr w1 w2 w3 : World} {bt bg : Nat} {st : Int} {vars : List Int} {gs gs' : GS} {F : Dom} {A : Option Addr} {c : Nat} {n : Int} {R : Option Addr} {rc : Nat} {prs : List (Int × Int)}
theorem NT.below (h : NT w wr bt bg st vars gs F A c n R rc prs) (hb : Below wr.heap.size wr w1) : NT w w1 bt bg st vars gs F A c n R rc prs :=
  ⟨(hb.block bt (lt_of_block h.blk)).trans h.blk, h.gat.below hb, own_below h.own hb, own_below h.rown hb, h.low, h.nbt, h.nown, h.nrown, h.bel.trans (hb.mono h.bsz), h.lt, Nat.le_trans h.bsz hb.size⟩
theorem chg_own {base size m : Nat} {e : TypeId} {v : Value} {xs : List Value} (hc : Chg F wr w1) (h : wr.ownsRow base e size v m xs) (hn : ∀ b, F b → some b ≠ v.ownBlock) : w1.ownsRow base e size v m xs := by
  refine ⟨h.1, ?_⟩
  rcases h.2 with h0 | ⟨g, cap, cur, hv, hb, hh, h3⟩
  · exact .inl h0
  · refine .inr ⟨g, cap, cur, hv, hb, ?_, h3⟩
    rw [hc.block g (lt_of_block hh) (fun hf => hn g hf (by rw [hv]; rfl))]
    exact hh
theorem NT.gates (h : NT w wr bt bg st vars gs F A c n R rc prs) (hp : GPost wr bg F gs' w1) : ∃ F', NT w w1 bt bg st vars gs' F' A c n R rc prs := by
  obtain ⟨F', hg, hs, hc⟩ := hp
  have hin : ∀ b, F' b → F b ∨ wr.heap.size ≤ b := hs
  have hbl := lt_of_block h.blk
  have hlt : ∀ {b}, w.heap.size ≤ b → b < wr.heap.size → ¬ F b → ¬ F' b := fun {b} _ h2 h3 h4 => by
    rcases hin b h4 with h5 | h5
    · exact h3 h5
    · omega
  refine ⟨F', (hc.block bt hbl h.nbt).trans h.blk, hg, chg_own hc h.own h.nown, chg_own hc h.rown h.nrown, fun b hb => ?_, hlt h.lt hbl h.nbt, fun b hb => ?_, fun b hb => ?_, ?_, h.lt, Nat.le_trans h.bsz hc.size⟩
  · rcases hin b hb with h5 | h5
    · exact h.low b h5
    · have := h.bsz; omega
  · rcases hin b hb with h5 | h5
    · exact h.nown b h5
    · intro e
      have := (h.own.lt b e.symm).2
      omega
  · rcases hin b hb with h5 | h5
    · exact h.nrown b h5
    · intro e
      have := (h.rown.lt b e.symm).2
      omega
  · exact h.bel.trans (hc.below (fun b hb => h.low b hb) h.bsz)
theorem NT.cells (h : NT w wr bt bg st vars gs F A c n R rc prs) : wr.cell? ⟨bt, 0, none⟩ = some (.pointer (some ⟨bg, 0, none⟩)) ∧ wr.cell? ⟨bt, 1, none⟩ = some (.int .i64 st) ∧ wr.cell? ⟨bt, 2, none⟩ = some (.slice A vars.length c) ∧
    wr.cell? ⟨bt, 3, none⟩ = some (.int .i64 n) ∧ wr.cell? ⟨bt, 4, none⟩ = some (.slice R prs.length rc) ∧ bt < wr.heap.size ∧ wr.frozen? ⟨bt, 2, none⟩ = false ∧ wr.frozen? ⟨bt, 3, none⟩ = false ∧ wr.frozen? ⟨bt, 4, none⟩ = false :=
  ⟨block_cell h.blk rfl, block_cell h.blk rfl, block_cell h.blk rfl, block_cell h.blk rfl, block_cell h.blk rfl, lt_of_block h.blk, block_free h.blk, block_free h.blk, block_free h.blk⟩
end
end Go.Proofs.Ytfabdpnjjondaaa
