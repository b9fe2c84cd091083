/-
  Memory during the walk of Compile: the table, the controller, the lists of columns.
-/
import Derived.Test.YtfabdpnjjondaaaG14
import Derived.Test.YtfabdpnjjondaaaG15
import Derived.Test.YtfabdpnjjondaaaG11
import Derived.Test.YtfabdpnjjondaaaP4
set_option linter.unusedVariables false
set_option linter.unusedSimpArgs false
namespace Go.Proofs.Ytfabdpnjjondaaa
open Go.RowKit

/-- The world while Compile runs: w is where it began, W0 where the table did; blocks below B are laid before the columns. -/
structure Cm (w W0 : World) (m : Mly) (cs : Array Value) (bt bg bp B : Nat) (A : Option Addr) (c : Nat) (R : Option Addr) (rc : Nat) (wr : World) (gs : GS) (F : Dom) : Prop where
  below : Below w.heap.size w wr
  nt : NT W0 wr bt bg m.start (newVars m).1 gs F A c ((rowsM m : Nat) : Int) R rc (pairsTo m (rowsM m))
  box : wr.heap[w.heap.size]? = some (.cells cs 35 (0, 0))
  res : wr.heap[w.heap.size + 1]? = some (.cells #[.int .i64 0, .slice none 0 0, .slice none 0 0, .slice none 0 0] 25 (0, 0))
  ptr : wr.heap[bp]? = some (.cells #[.pointer (some ⟨bt, 0, none⟩)] 56 (0, 0))
  nbp : ¬ F bp
  base : w.heap.size + 2 ≤ W0.heap.size
  bpl : bp < B
  btl : bt < B
  al : ∀ b, some b = (Value.slice A (newVars m).1.length c).ownBlock → b < B
  rl : ∀ b, some b = (Value.slice R (pairsTo m (rowsM m)).length rc).ownBlock → b < B
  Bl : W0.heap.size ≤ B
  Bs : B ≤ wr.heap.size

theorem NT.gates2 {w wr w1 : World} {bt bg : Nat} {st : Int} {vars : List Int} {gs gs' : GS} {F F' : Dom} {A : Option Addr} {c : Nat} {n : Int} {R : Option Addr} {rc : Nat} {prs : List (Int × Int)}
    (h : NT w wr bt bg st vars gs F A c n R rc prs) (hg : Gat w1 bg gs' F') (hs : ∀ b, F' b → F b ∨ wr.heap.size ≤ b) (hc : Chg F wr w1) : NT w w1 bt bg st vars gs' F' A c n R rc prs := by
  have hin : ∀ b, F' b → F b ∨ wr.heap.size ≤ b := hs
  have hbl := lt_of_block h.blk
  have hlt : ∀ {b}, w.heap.size ≤ b → b < wr.heap.size → ¬ F b → ¬ F' b := fun {b} _ h2 h3 h4 => by
    rcases hin b h4 with h5 | h5
    · exact h3 h5
    · omega
  refine ⟨(hc.block bt hbl h.nbt).trans h.blk, hg, chg_own hc h.own h.nown, chg_own hc h.rown h.nrown, fun b hb => ?_, hlt h.lt hbl h.nbt, fun b hb => ?_, fun b hb => ?_, ?_, h.lt, Nat.le_trans h.bsz hc.size⟩
  · rcases hin b hb with h5 | h5
    · exact h.low b h5
    · have := h.bsz; omega
  · rcases hin b hb with h5 | h5
    · exact h.nown b h5
    · intro e
      have := (h.own.lt b e.symm).2
      omega
  · rcases hin b hb with h5 | h5
    · exact h.nrown b h5
    · intro e
      have := (h.rown.lt b e.symm).2
      omega
  · exact h.bel.trans (hc.below (fun b hb => h.low b hb) h.bsz)

section
variable {w W0 wr w1 : World} {m : Mly} {cs : Array Value} {bt bg bp B : Nat} {A : Option Addr} {c : Nat} {R : Option Addr} {rc : Nat} {gs gs' : GS} {F F' G : Dom}
theorem Cm.agree (h : Cm w W0 m cs bt bg bp B A c R rc wr gs F) (hc : Chg G wr w1) (hG : ∀ b, G b → B ≤ b ∧ ¬ F b) : Cm w W0 m cs bt bg bp B A c R rc w1 gs F := by
  have hBs := h.Bs
  have hbase := h.base
  have hBl := h.Bl
  have lowk : ∀ b, b < B → w1.heap[b]? = wr.heap[b]? := fun b hb => hc.block b (by omega) (fun hg => by have := (hG b hg).1; omega)
  have fk : ∀ b, F b → w1.heap[b]? = wr.heap[b]? := fun b hb => hc.block b (h.nt.gat.lt hb) (fun hg => (hG b hg).2 hb)
  have hn := h.nt
  refine ⟨h.below.trans (hc.below (B := w.heap.size) (fun b hb => by have := (hG b hb).1; omega) (by omega)), ⟨(lowk _ h.btl).trans hn.blk, hn.gat.agree fk, own_agree hn.own fun b e => lowk b (h.al b e), own_agree hn.rown fun b e => lowk b (h.rl b e), hn.low, hn.nbt, hn.nown, hn.nrown,
    hn.bel.trans (hc.below (B := W0.heap.size) (fun b hb => by have := (hG b hb).1; omega) (by omega)), hn.lt, Nat.le_trans hn.bsz hc.size⟩,
    (lowk _ (by omega)).trans h.box, (lowk _ (by omega)).trans h.res, (lowk _ h.bpl).trans h.ptr, h.nbp, h.base, h.bpl, h.btl, h.al, h.rl, h.Bl, Nat.le_trans h.Bs hc.size⟩
theorem Cm.after (h : Cm w W0 m cs bt bg bp B A c R rc wr gs F) (hb : Below wr.heap.size wr w1) : Cm w W0 m cs bt bg bp B A c R rc w1 gs F :=
  h.agree (G := fun _ => False) (Chg.of_below hb) (fun _ h => h.elim)
theorem Cm.gates (h : Cm w W0 m cs bt bg bp B A c R rc wr gs F) (hg : Gat w1 bg gs' F') (hs : ∀ b, F' b → F b ∨ wr.heap.size ≤ b) (hc : Chg F wr w1) : Cm w W0 m cs bt bg bp B A c R rc w1 gs' F' := by
  have hBs := h.Bs
  have hbase := h.base
  have hBl := h.Bl
  have hn := h.nt
  have hF : ∀ b, F b → W0.heap.size ≤ b := hn.low
  refine ⟨h.below.trans (hc.below (B := w.heap.size) (fun b hb => by have := hF b hb; omega) (by omega)), hn.gates2 hg hs hc, ?_, ?_, ?_, fun hf => ?_, h.base, h.bpl, h.btl, h.al, h.rl, h.Bl, Nat.le_trans h.Bs hc.size⟩
  · exact (hc.block _ (by omega) (fun hf => by have := hF _ hf; omega)).trans h.box
  · exact (hc.block _ (by omega) (fun hf => by have := hF _ hf; omega)).trans h.res
  · exact (hc.block _ (lt_of_block h.ptr) h.nbp).trans h.ptr
  · rcases hs bp hf with h1 | h1
    · exact h.nbp h1
    · have := lt_of_block h.ptr; omega
end

/-- A list of numbers that Compile has made: its row lies at or above B. -/
structure Ow (B : Nat) (F : Dom) (wr : World) (A : Option Addr) (c : Nat) (l : List Int) : Prop where
  own : wr.ownsRow B 3 1 (.slice A l.length c) l.length (l.map (.int .i64))
  nf : ∀ b, F b → some b ≠ (Value.slice A l.length c).ownBlock
section
variable {B : Nat} {F F' G : Dom} {wr w1 w5 : World} {A A5 : Option Addr} {c c5 : Nat} {l : List Int}
theorem Ow.nil (B : Nat) (F : Dom) (wr : World) : Ow B F wr none 0 [] := ⟨⟨rfl, .inl ⟨rfl, rfl⟩⟩, fun b _ => by simp [Value.ownBlock]⟩
theorem Ow.agree (h : Ow B F wr A c l) (hc : Chg G wr w1) (hG : ∀ b, G b → some b ≠ (Value.slice A l.length c).ownBlock) : Ow B F w1 A c l := ⟨chg_own hc h.own hG, h.nf⟩
theorem Ow.after (h : Ow B F wr A c l) (hb : Below wr.heap.size wr w1) : Ow B F w1 A c l := ⟨own_below h.own hb, h.nf⟩
theorem Ow.gates (h : Ow B F wr A c l) (hs : ∀ b, F' b → F b ∨ wr.heap.size ≤ b) (hc : Chg F wr w1) : Ow B F' w1 A c l :=
  ⟨chg_own hc h.own h.nf, fun b hb e => by
    rcases hs b hb with h1 | h1
    · exact h.nf b h1 e
    · have := (h.own.lt b e.symm).2; omega⟩
theorem Ow.push (h : Ow B F wr A c l) (x : Int) (hF : ∀ b, F b → b < wr.heap.size) (hown : w5.ownsRow B 3 1 (.slice A5 (l.length + 1) c5) (l.length + 1) (l.map (.int .i64) ++ [.int .i64 x]))
    (hat : (Value.slice A5 (l.length + 1) c5).ownBlock = (Value.slice A l.length c).ownBlock ∨ (Value.slice A5 (l.length + 1) c5).ownBlock = some wr.heap.size) : Ow B F w5 A5 c5 (l ++ [x]) := by
  have hl : (l ++ [x]).length = l.length + 1 := by simp
  refine ⟨by rw [hl, List.map_append]; exact hown, fun b hb => ?_⟩
  rw [hl]
  rcases hat with h1 | h1
  · rw [h1]; exact h.nf b hb
  · rw [h1]
    intro e
    injection e with e
    have := hF b hb
    omega
end

theorem Cm.push {w W0 wr w5 : World} {m : Mly} {cs : Array Value} {bt bg bp B B' : Nat} {A : Option Addr} {c : Nat} {R : Option Addr} {rc : Nat} {gs : GS} {F : Dom} {A5 : Option Addr} {c5 : Nat} {l : List Int}
    (h : Cm w W0 m cs bt bg bp B A c R rc wr gs F) (hO : Ow B' F wr A5 c5 l) (hB : B ≤ B') (hg : wr.grownBy w5 (Value.slice A5 l.length c5).ownBlock) : Cm w W0 m cs bt bg bp B A c R rc w5 gs F :=
  h.agree (G := fun b => some b = (Value.slice A5 l.length c5).ownBlock) (Chg.of_grown hg (fun _ hk => hk.symm)) (fun b hb => ⟨by have := (hO.own.lt b hb.symm).1; omega, fun hf => hO.nf b hf hb⟩)
theorem codeZ_range {n st q : Int} (h0 : 0 ≤ st) (h1 : st < n) (q0 : 0 ≤ q) (q1 : q < n) : 0 ≤ codeZ st q ∧ codeZ st q < n := by
  unfold codeZ
  split
  · omega
  split <;> omega
theorem pairs_get (m : Mly) {k j : Nat} (h : j < k) : (pairsTo m k).getD j (0, 0) = pairN m j := by
  simp [pairsTo, List.getD, h]
theorem pairN_in {m : Mly} (h : Sized m) {j : Nat} (hp : (pairN m j).1 ≠ -1) : 0 ≤ (pairN m j).1 ∧ (pairN m j).1 < m.out.length ∧ 0 ≤ (pairN m j).2 ∧ (pairN m j).2 < m.ins := by
  unfold pairN at hp ⊢
  split at hp
  · rename_i hc
    rw [if_pos hc]
    have := codeZ_range h.s0 h.s1 (q := ((j / 2 ^ inW m : Nat) : Int)) (Int.natCast_nonneg _) hc.1
    exact ⟨this.1, this.2, Int.natCast_nonneg _, hc.2⟩
  · exact absurd rfl hp
end Go.Proofs.Ytfabdpnjjondaaa
