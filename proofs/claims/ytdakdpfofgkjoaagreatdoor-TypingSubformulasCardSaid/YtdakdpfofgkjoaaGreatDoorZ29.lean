/-
  Sets of strings as maps that the call itself keeps; slices.Sort at strings; the names of a formula in the order in which they are met.
  Regions that draw their order inside a round of a loop over a function: they are done as outside of one.
-/
import Derived.Sort.OwnSorted
import Derived.Test.YtdakdpfofgkjoaaGreatDoorZ00
import Derived.Test.YtdakdpfofgkjoaaGreatDoorZ28
set_option linter.unusedVariables false
set_option linter.unusedSimpArgs false
namespace Go.Proofs.YtdakdpfofgkjoaaGreatDoor
open Go.RowKit Go.Shelf

instance decMemB (k : ByteArray) (ks : List ByteArray) : Decidable (k ∈ ks) := @List.instDecidableMemOfLawfulBEq ByteArray instBEqOfDecidableEq _ k ks
def encB (s : ByteArray) : Value := .string s
theorem strB_check (e : Bool) (w : World) (q : ByteArray) : (Instr.checkKey e 10000 9 (encB q)).run Tryz.prog w = .ok () w := by kernel_rfl
theorem strB_key : KeyT Tryz.prog 9 encB :=
  .of_now Tryz.underlying9 strB_check (fun a b => by
    unfold encB
    simp only [Instr.sameNow]
    rw [show (a == b) = decide (a = b) from by rw [Bool.eq_iff_iff, Go.MapKept.bytes_beq, decide_eq_true_eq]]) (fun k => by
    simp only [encB, Instr.sameBits]
    rw [Go.MapKept.bytes_beq])
def setB (ks : List ByteArray) : List (ByteArray × Value) := ks.map fun k => (k, .bool true)
theorem setB_keys (ks : List ByteArray) : (setB ks).map (·.1) = ks := by unfold setB; rw [List.map_map]; show ks.map id = ks; simp
theorem setB_look (ks : List ByteArray) (k : ByteArray) : lookB (setB ks) k = if k ∈ ks then some (.bool true) else none := by
  induction ks with
  | nil => rfl
  | cons a ks ih =>
    show lookB ((a, Value.bool true) :: setB ks) k = _
    rw [lookB_cons, ih]
    by_cases h : a = k
    · subst h; simp
    · rw [if_neg h]
      simp [show ¬ k = a from fun e => h e.symm]
theorem setB_new {ks : List ByteArray} {k : ByteArray} (h : k ∉ ks) : updB (setB ks) k (.bool true) = setB (ks ++ [k]) := by
  unfold updB
  rw [setB_keys, if_neg h]
  unfold setB
  rw [List.map_append]; rfl
/-- Block mb is the set of the strings ks. -/
def BSet (w : World) (mb : Nat) (ks : List ByteArray) : Prop := MapIs encB w mb (setB ks)
section
variable {w w' : World} {mb : Nat} {ks : List ByteArray}
theorem BSet.lt (h : BSet w mb ks) : mb < w.heap.size := MapIs.lt h
theorem BSet.of_block (h : BSet w mb ks) (hb : w'.heap[mb]? = w.heap[mb]?) : BSet w' mb ks := MapIs.of_block h hb
theorem BSet.new (w : World) : BSet (w.alloc (.map #[] 0)) w.heap.size [] := MapIs.new w
theorem BSet.look (h : BSet w mb ks) (k : ByteArray) : (Instr.lookup 76 (.map (some mb)) (.string k) false).run Tryz.prog w = .ok (.bool (decide (k ∈ ks))) w := by
  have := run_lookup_b strB_key (T := 76) (E := 4) (P := Tryz.prog) (z := .bool false) (by kernel_rfl) (by kernel_rfl) h k false
  rw [setB_look] at this
  show (Instr.lookup 76 (.map (some mb)) (encB k) false).run Tryz.prog w = _
  rw [this]
  by_cases hk : k ∈ ks <;> simp [hk]
theorem BSet.put (h : BSet w mb ks) {k : ByteArray} (hk : k ∉ ks) : ∃ w', (Instr.mapUpdate 76 (.map (some mb)) (.string k) (.bool true)).run Tryz.prog w = .ok () w' ∧ BSet w' mb (ks ++ [k]) ∧ w.grownBy w' (some mb) ∧ w'.heap.size = w.heap.size := by
  obtain ⟨w', h1, h2, h3, h4⟩ := run_update_b strB_key (T := 76) (E := 4) (P := Tryz.prog) (by kernel_rfl) h k (.bool true)
  rw [setB_new hk] at h2
  exact ⟨w', h1, h2, h3, h4⟩
end
/-- A slice of strings. -/
def RdS (w : World) (D : Dom) (A : Option Addr) (c : Nat) (ss : List ByteArray) : Prop := Rd w D 1 A ss.length c (ss.map .string)
def bOf (s : ByteArray) : List UInt8 := s.data.toList
def oB (l : List UInt8) : ByteArray := ⟨l.toArray⟩
theorem oB_bOf (s : ByteArray) : oB (bOf s) = s := by cases s; rfl
theorem bOf_oB (l : List UInt8) : bOf (oB l) = l := by simp [bOf, oB]
theorem enc_bOf (ss : List ByteArray) : (ss.map bOf).map Go.Proofs.encStr = ss.map .string := by
  rw [List.map_map]
  refine List.map_congr_left fun s _ => ?_
  show Value.string (oB (bOf s)) = _
  rw [oB_bOf]
theorem enc_oB (ls : List (List UInt8)) : ls.map Go.Proofs.encStr = (ls.map oB).map .string := by rw [List.map_map]; rfl
theorem le_ltS (a b : ByteArray) : decide (bOf a ≤ bOf b) = !ltS b a := by
  unfold ltS
  rw [ByteArray.toList_eq, ByteArray.toList_eq, Go.Proofs.bytesLess_eq]
  show decide (¬ bOf b < bOf a) = _
  rw [decide_not]; rfl
/-- A sorted list of the same strings, each once. -/
theorem sorted_asc {ss : List ByteArray} (hn : ss.Nodup) : Asc ((((ss.map bOf).mergeSort fun x y => decide (x ≤ y))).map oB) ∧ (∀ x, x ∈ (((ss.map bOf).mergeSort fun x y => decide (x ≤ y))).map oB ↔ x ∈ ss) := by
  have hp := List.mergeSort_perm (ss.map bOf) fun x y => decide (x ≤ y)
  have hm : ∀ x, x ∈ (((ss.map bOf).mergeSort fun x y => decide (x ≤ y))).map oB ↔ x ∈ ss := fun x => by
    rw [List.mem_map]
    constructor
    · rintro ⟨l, hl, rfl⟩
      obtain ⟨s, hs, rfl⟩ := List.mem_map.1 (hp.mem_iff.1 hl)
      rw [oB_bOf]; exact hs
    · exact fun hx => ⟨bOf x, hp.mem_iff.2 (List.mem_map_of_mem hx), oB_bOf x⟩
  refine ⟨?_, hm⟩
  have key : ∀ a b : List UInt8, decide (a ≤ b) = !ltS (oB b) (oB a) := fun a b => by
    have := le_ltS (oB a) (oB b)
    rw [bOf_oB, bOf_oB] at this
    exact this
  have hs : ((ss.map bOf).mergeSort fun x y => decide (x ≤ y)).Pairwise fun a b => decide (a ≤ b) = true := by
    refine List.pairwise_mergeSort (fun a b c h1 h2 => ?_) (fun a b => ?_) _
    · rw [key] at h1 h2 ⊢
      rw [Bool.not_eq_true'] at h1 h2 ⊢
      cases h3 : ltS (oB c) (oB a)
      · rfl
      · by_cases e : oB b = oB c
        · rw [e, h3] at h1; cases h1
        · have h4 := ltS_total h2 (fun e' => e e'.symm)
          have := ltS_trans h4 h3
          rw [h1] at this; cases this
    · rw [key, key]
      cases h1 : ltS (oB b) (oB a)
      · rfl
      · cases h2 : ltS (oB a) (oB b)
        · rfl
        · have := ltS_trans h1 h2
          rw [ltS_irrefl] at this; cases this
  have hnd : ((((ss.map bOf).mergeSort fun x y => decide (x ≤ y))).map oB).Nodup := by
    have h1 : (((ss.map bOf).mergeSort fun x y => decide (x ≤ y)).map oB).Perm ((ss.map bOf).map oB) := hp.map oB
    have h2 : (ss.map bOf).map oB = ss := by
      rw [List.map_map]
      conv => rhs; rw [← List.map_id ss]
      exact List.map_congr_left fun s _ => oB_bOf s
    rw [h2] at h1
    exact h1.nodup_iff.2 hn
  have hs2 : (((ss.map bOf).mergeSort fun x y => decide (x ≤ y)).map oB).Pairwise (fun a b => ltS b a = false) := List.pairwise_map.2 (hs.imp fun {a b} h => by rw [key, Bool.not_eq_true'] at h; exact h)
  exact (hs2.and hnd).imp fun {a b} h => ltS_total h.1 fun e => h.2 e.symm
theorem sorted_names {ss T : List ByteArray} (hn : ss.Nodup) (hT : Asc T) (hm : ∀ x, x ∈ ss ↔ x ∈ T) : (((ss.map bOf).mergeSort fun x y => decide (x ≤ y))).map oB = T :=
  (sorted_asc hn).1.ext hT fun x => ((sorted_asc hn).2 x).trans (hm x)
/-- slices.Sort at a row of strings of the call's own. -/
theorem sorts_any (base : Nat) (A : Option Addr) (c : Nat) (ss T : List ByteArray) (w : World) (h : w.ownsRow base 9 1 (.slice A ss.length c) ss.length (ss.map .string)) (hn : ss.Nodup) (hT : Asc T) (hm : ∀ x, x ∈ ss ↔ x ∈ T) (hl : ss.length ≤ 1000000) :
    Calls Tryz.prog 46 #[.slice A ss.length c] w fun e w' => e = .returned (.tuple #[]) ∧ T.length = ss.length ∧ w'.ownsRow base 9 1 (.slice A ss.length c) ss.length (T.map .string) ∧ w.grownBy w' (Value.slice A ss.length c).ownBlock := by
  have hsn := sorted_names hn hT hm
  by_cases h0 : ss = []
  · subst h0
    have hT0 : T = [] := by
      rcases T with _ | ⟨x, T⟩
      · rfl
      · exact absurd ((hm x).2 (by simp)) (by simp)
    subst hT0
    refine (AnyM.slices_Sort_string_none sortStrA A c w).mono ?_
    rintro e w' ⟨rfl, hw⟩
    rw [hw]
    exact ⟨rfl, rfl, by simpa using h, World.grownBy.refl w _⟩
  · rcases h.2 with ⟨_, hl⟩ | ⟨g, cap, cur, hv, hb, hh, h1, h2, hsz, htk⟩
    · exact absurd (List.eq_nil_of_length_eq_zero hl) h0
    · injection hv with e1 e2 e3
      subst e1 e3
      rw [Nat.mul_one] at htk
      have hlb : (ss.map bOf).length = ss.length := by simp
      have hH := holds_of_block (ss := ss.map bOf) hh (by rw [hlb, enc_bOf]; exact htk)
      have hc := AnyM.slices_Sort_string sortStrA g 0 c (ss.map bOf) w hH (lt_of_block hh) (by rw [hlb]; omega)
      rw [hlb] at hc
      refine hc.mono ?_
      rintro e w' ⟨rfl, n, os, rfl⟩
      have hrow := ownsRow_sorted (n := n) (os := os) (w := w) (base := base) (cap := c) (ss := ss.map bOf) (ts := (ss.map bOf).mergeSort fun x y => decide (x ≤ y)) (List.length_mergeSort _) hb hh (by rw [hlb]; exact h1) h2 hsz
      rw [hlb, enc_oB, hsn] at hrow
      refine ⟨rfl, ?_, hrow, grownBy_sorted _⟩
      rw [← hsn, List.length_map, List.length_mergeSort, hlb]
/-- The names in the order in which they are met, each once. -/
def addN (xs : List ByteArray) (p : Fm × Bool) : List ByteArray := if p.1.op = 3 ∧ p.1.name ∉ xs then xs ++ [p.1.name] else xs
def metN (L : List (Fm × Bool)) (k : Nat) : List ByteArray := (L.take k).foldl addN []
theorem metN_succ {L : List (Fm × Bool)} {k : Nat} (h : k < L.length) : metN L (k + 1) = addN (metN L k) (L.getD k default) := by
  unfold metN
  rw [take_succ_getD L default h, List.foldl_append]; rfl
theorem addN_len (xs : List ByteArray) (p : Fm × Bool) : (addN xs p).length ≤ xs.length + 1 := by
  unfold addN; split <;> simp
theorem metN_len (L : List (Fm × Bool)) : ∀ k, (metN L k).length ≤ k
  | 0 => by simp [metN]
  | k + 1 => by
    by_cases h : k < L.length
    · rw [metN_succ h]
      have := addN_len (metN L k) (L.getD k default)
      have := metN_len L k
      omega
    · have e : metN L (k + 1) = metN L k := by unfold metN; rw [List.take_of_length_le (by omega), List.take_of_length_le (by omega)]
      rw [e]
      have := metN_len L k
      omega
theorem foldN (L : List (Fm × Bool)) : ∀ xs : List ByteArray, xs.Nodup → (L.foldl addN xs).Nodup ∧ ∀ x, x ∈ L.foldl addN xs ↔ x ∈ xs ∨ x ∈ namesIn L := by
  induction L with
  | nil => exact fun xs h => ⟨h, fun x => by simp [namesIn]⟩
  | cons p L ih =>
    intro xs h
    rw [List.foldl_cons, namesIn_cons]
    have ha : (addN xs p).Nodup ∧ ∀ x, x ∈ addN xs p ↔ x ∈ xs ∨ (p.1.op = 3 ∧ x = p.1.name) := by
      unfold addN
      by_cases h3 : p.1.op = 3
      · by_cases hm : p.1.name ∈ xs
        · rw [if_neg fun h => h.2 hm]
          refine ⟨h, fun x => ⟨.inl, ?_⟩⟩
          rintro (hx | ⟨_, rfl⟩)
          · exact hx
          · exact hm
        · rw [if_pos ⟨h3, hm⟩]
          refine ⟨List.nodup_append.2 ⟨h, by simp, fun a ha b hb e => ?_⟩, fun x => by simp [h3]⟩
          rw [List.mem_singleton] at hb
          subst hb
          subst e
          exact hm ha
      · rw [if_neg fun h => h3 h.1]
        exact ⟨h, fun x => by simp [h3]⟩
    obtain ⟨h1, h2⟩ := ih _ ha.1
    refine ⟨h1, fun x => ?_⟩
    rw [h2, ha.2, List.mem_append]
    by_cases h3 : p.1.op = 3
    · simp [h3, or_assoc]
    · simp [h3]
theorem metN_all (f : Fm) : (metN (preL false f) f.size).Nodup ∧ ∀ x, x ∈ metN (preL false f) f.size ↔ x ∈ namesF f := by
  unfold metN
  rw [List.take_of_length_le (by rw [preL_len]; exact Nat.le_refl _)]
  have := foldN (preL false f) [] List.nodup_nil
  refine ⟨this.1, fun x => ?_⟩
  rw [this.2, namesF_mem]
  simp [namesPre]
end Go.Proofs.YtdakdpfofgkjoaaGreatDoor
set_option linter.unusedVariables false
set_option linter.unusedSimpArgs false
namespace Go.Proofs.YtdakdpfofgkjoaaGreatDoor
open Go.RowKit

/-- No operation defers a call. -/
def noDefer (ops : Array Oper) : Bool := ops.all fun o => match o.op with
  | .defer _ => false
  | _ => true
theorem noDefer_spec {ops : Array Oper} (h : noDefer ops = true) {i : Nat} {o : Oper} (ho : ops[i]? = some o) : ∀ c, o.op ≠ .defer c := by
  intro c e
  obtain ⟨hi, rfl⟩ := Array.getElem?_eq_some_iff.1 ho
  have := Array.all_eq_true.1 h i hi
  rw [e] at this
  cases this
section
variable {P : Program} {ops : Array Oper} {Q : Exit → Act → World → Prop} {n l : Nat}
theorem wpIn_of_wp {o : Oper} (hd : ∀ c, o.op ≠ .defer c) {a : Act} {w : World} {K K' : Act → World → Prop} (hK : ∀ a w, K a w → K' a w) (h : Oper.wp P o a w K Q) : Oper.wpIn (Fence.wide.inRound l) n P o a w K' Q := by
  refine ⟨fun _ _ => trivial, ?_⟩
  rw [Oper.semAt_eq _ _ _ hd]
  unfold Oper.wp at h
  generalize (execOp a.eval o).run P w = r at *
  cases r with
  | ok nx w' =>
    cases nx with
    | value v => exact hK _ _ h
    | skip => exact hK _ _ h
    | defer d => exact hK _ _ h
    | enter f args =>
      refine ⟨fun h => (by cases h), ?_⟩
      refine CallsIn.inRound l (callsIn_wide.2 (Calls.mono h fun e w'' he => ?_))
      cases e with
      | returned u => exact hK _ _ he
      | panicked c => exact he
      | outgrown => exact he
    | row row args =>
      refine ⟨fun h => (by cases h), fun c cs _ => ?_⟩
      obtain ⟨v, w', r, s⟩ := h c cs
      exact ⟨v, w', hK _ _ r, stepsIn_wide.2 s⟩
    | round _ _ _ _ _ => exact h.elim
    | recover => exact h.elim
    | _ => exact h.elim
  | halt x w' => cases x <;> exact h
theorem wpOpsIn_round (hd : noDefer ops = true) (hQ : ¬ LetsOut Q) : ∀ (is : List Nat) (a : Act) (w : World), wpOps P ops Q is a w → wpOpsIn (Fence.wide.inRound l) n P ops Q is a w
  | [], a, w, h => h
  | i :: is, a, w, h => by
    unfold wpOps at h
    unfold wpOpsIn
    cases ho : ops[i]? with
    | none =>
      simp only [ho] at h ⊢
      exact wpOpsIn_round hd hQ is a w h
    | some o =>
      simp only [ho] at h ⊢
      split
      · rename_i hw
        rw [if_pos hw] at h
        rcases h with h | h
        · exact wpIn_of_wp (noDefer_spec hd ho) (fun a w => wpOpsIn_round hd hQ is a w) h
        · exact absurd h.2 hQ
      · rename_i hw
        rw [if_neg hw] at h
        exact ⟨fun _ _ => trivial, wpOpsIn_round hd hQ is _ w h⟩
theorem wpIn_round_any {id : Nat} {a : Act} {w : World} (hm : P.follows .mixedOrders = true) (hd : noDefer ops = true) (hQ : ¬ LetsOut Q)
    (h : wpAny P .any ops Q ops.size (Array.replicate ops.size false) a w.drew) : (Code.region id ops true).wpIn (Fence.wide.inRound l) n P Q a w :=
  wpIn_region_draw fun t => by
    simp only [Region.schedule, hm, Bool.true_or, if_true]
    exact wpOpsIn_round hd hQ _ a _ (wpAny_sound ops.size t _ a _ h)
theorem wpIn_round_sink {id : Nat} {a : Act} {w : World} {ls : List Oper} {o : Oper} (S : World → Prop) (hm : P.follows .mixedOrders = true) (hd : noDefer (o :: ls).toArray = true) (hQ : ¬ LetsOut Q)
    (hb : backB (o :: ls).dropLast.toArray = true) (hl : sinkB .any (o :: ls).dropLast.toArray.size ((o :: ls).getLast (List.cons_ne_nil _ _)) = true) (hS : S w.drew)
    (h : S w.drew → wpAnyH P .any (o :: ls).dropLast.toArray (sinkQ P ((o :: ls).getLast (List.cons_ne_nil _ _)) Q) S (o :: ls).dropLast.toArray.size (Array.replicate (o :: ls).dropLast.toArray.size false) a w.drew) : (Code.region id (o :: ls).toArray true).wpIn (Fence.wide.inRound l) n P Q a w := by
  refine wpIn_round_any hm hd hQ ?_
  have h1 := wpAny_sink hb hl (o :: ls).dropLast.toArray.size (Array.replicate (o :: ls).dropLast.toArray.size false) a w.drew (by simp) (wpAny_of_held _ _ _ _ (h hS))
  have e0 : (o :: ls).toArray = (o :: ls).dropLast.toArray.push ((o :: ls).getLast (List.cons_ne_nil _ _)) := by rw [List.push_toArray, List.dropLast_concat_getLast]
  rw [e0, Array.size_push]
  have e : Array.replicate ((o :: ls).dropLast.toArray.size + 1) false = (Array.replicate (o :: ls).dropLast.toArray.size false).push false := by rw [Array.replicate_succ]
  rw [e]
  exact h1
end
end Go.Proofs.YtdakdpfofgkjoaaGreatDoor
