/-
  Formulas, plain: nodes in order, sizes, kinds, as the document says it.
  Walks of leaf functions: ints, dual, full; of the reference's makers.
  Walks of the reference: capped, Small.
-/
import Derived.Test.YtdakdpfofgkjoaaGreatDoorZ00
set_option linter.unusedVariables false
set_option linter.unusedSimpArgs false
namespace Go.Proofs.YtdakdpfofgkjoaaGreatDoor

/-- The form of an operator. -/
structure Form where
  least : Nat
  most : Nat
  val : Int
  bound : Int
  named : Bool
  past : Bool
  future : Bool
  loose : Bool
def form0 : Form := ⟨0, 0, 0, 0, false, false, false, false⟩
def manyN : Nat := 1099511627776
def formsL : List Form := [
  form0,
  { form0 with loose := true },
  { form0 with loose := true },
  { form0 with val := 3, named := true, loose := true },
  { form0 with least := 1, most := 1, loose := true },
  { form0 with least := 2, most := manyN, loose := true },
  { form0 with least := 2, most := manyN, loose := true },
  { form0 with least := 2, most := 2 },
  { form0 with least := 1, most := 1, future := true, loose := true },
  { form0 with least := 2, most := 2, future := true, loose := true },
  { form0 with least := 2, most := 2, future := true, loose := true },
  { form0 with least := 1, most := 1, future := true },
  { form0 with least := 1, most := 1, future := true },
  { form0 with least := 1, most := 1, bound := 9, future := true },
  { form0 with least := 1, most := 1, bound := 9, future := true },
  { form0 with least := 1, most := 1, val := 1, past := true, loose := true },
  { form0 with least := 2, most := 2, val := 1, past := true, loose := true },
  { form0 with least := 2, most := 2, val := 1, past := true, loose := true },
  { form0 with least := 1, most := 1, past := true },
  { form0 with least := 1, most := 1, past := true }]
def isOp (op : Int) : Bool := decide (1 ≤ op) && decide (op < 20)
def formZ (op : Int) : Form := if isOp op then formsL.getD op.toNat form0 else form0
mutual
/-- The nodes, each before its arguments; and whether they are within a past operator. -/
def preL : Bool → Fm → List (Fm × Bool)
  | ins, .mk o n v b l => (.mk o n v b l, ins) :: preLs (ins || (formZ o).past) l
def preLs : Bool → List Fm → List (Fm × Bool)
  | _, [] => []
  | ins, f :: l => preL ins f ++ preLs ins l
end
theorem preL_eq (ins : Bool) (f : Fm) : preL ins f = (f, ins) :: preLs (ins || (formZ f.op).past) f.args := by cases f; simp only [preL, Fm.op, Fm.args]
theorem preLs_snoc (ins : Bool) : ∀ (l : List Fm) (f : Fm), preLs ins (l ++ [f]) = preLs ins l ++ preL ins f
  | [], f => by simp [preLs]
  | g :: l, f => by simp only [List.cons_append, preLs, preLs_snoc ins l f, List.append_assoc]
mutual
theorem preL_len : ∀ (ins : Bool) (f : Fm), (preL ins f).length = f.size
  | ins, .mk o n v b l => by simp only [preL, List.length_cons, Fm.size, preLs_len (ins || (formZ o).past) l]; omega
theorem preLs_len : ∀ (ins : Bool) (l : List Fm), (preLs ins l).length = sizes l
  | _, [] => rfl
  | ins, f :: l => by simp only [preLs, List.length_append, sizes, preL_len ins f, preLs_len ins l]
end
mutual
def Fm.depth : Fm → Nat
  | .mk _ _ _ _ l => 1 + depths l
def depths : List Fm → Nat
  | [] => 0
  | f :: l => max f.depth (depths l)
end
theorem Fm.depth_eq (f : Fm) : f.depth = 1 + depths f.args := by cases f; simp only [Fm.depth, Fm.args]
theorem depths_mem : ∀ {l : List Fm} {f : Fm}, f ∈ l → f.depth ≤ depths l
  | [], _, h => by cases h
  | g :: l, f, h => by
    rw [depths]
    rcases List.mem_cons.1 h with e | e
    · subst e; omega
    · have := depths_mem e; omega
theorem arg_depth {f : Fm} {i : Nat} (hi : i < f.args.length) : (f.args.getD i default).depth < f.depth := by
  have h1 : f.args.getD i default ∈ f.args := by simp [List.getD, hi]
  have := depths_mem h1
  rw [Fm.depth_eq f]; omega
mutual
theorem depth_size : ∀ f : Fm, f.depth ≤ f.size
  | .mk _ _ _ _ l => by simp only [Fm.depth, Fm.size]; have := depths_sizes l; omega
theorem depths_sizes : ∀ l : List Fm, depths l ≤ sizes l
  | [] => Nat.le_refl _
  | f :: l => by simp only [depths, sizes]; have := depth_size f; have := depths_sizes l; omega
end
/-- Every formula is longer than the list of its arguments. -/
theorem args_sizes : ∀ l : List Fm, l.length ≤ sizes l
  | [] => Nat.le_refl _
  | f :: l => by
    have := args_sizes l
    have h := Fm.size_eq f
    simp only [List.length_cons, sizes]
    omega
end Go.Proofs.YtdakdpfofgkjoaaGreatDoor
set_option linter.unusedVariables false
set_option linter.unusedSimpArgs false
namespace Go.Proofs.YtdakdpfofgkjoaaGreatDoor
open Go.RowKit
attribute [local go_sem] cell_alloc_old

def cmpZ (a b : Int) : Int := if a < b then -1 else if b < a then 1 else 0
theorem rints_any (a b : Int) (w : World) : Calls Tryz.prog 73 #[.int .i64 a, .int .i64 b] w fun e w' => e = .returned (.int .i64 (cmpZ a b)) ∧ w' = w := by
  unfold cmpZ
  by_cases h : a < b
  · rw [if_pos h]
    go_enter Tryz.func73, Tryz.ntmps73
    go_wp2
    go_ret
    exact ⟨rfl, rfl⟩
  · rw [if_neg h]
    by_cases h2 : b < a
    · rw [if_pos h2]
      go_enter Tryz.func73, Tryz.ntmps73
      go_wp2
      go_ret
      exact ⟨rfl, rfl⟩
    · rw [if_neg h2]
      go_enter Tryz.func73, Tryz.ntmps73
      go_wp2
      go_ret
      exact ⟨rfl, rfl⟩
/-- The operator in the place of a kernel's under a negation. -/
def dualZ (op : Int) : Int := if op = 1 then 2 else if op = 2 then 1 else if op = 5 then 6 else if op = 6 then 5 else if op = 9 then 10 else if op = 10 then 9 else if op = 16 then 17 else if op = 17 then 16 else op
def fullZ (op : Int) : Int := if op = 7 then 6 else if op = 13 then 6 else if op = 14 then 5 else if op = 11 then 9 else if op = 12 then 10 else if op = 18 then 16 else if op = 19 then 17 else op
theorem beq_false_of {a b : Int} (h : ¬ a = b) : (a == b) = false := beq_eq_false_iff_ne.2 h
theorem dual_any (op : Int) (w : World) : Calls Tryz.prog 84 #[.int .i64 op] w fun e w' => e = .returned (.int .i64 (dualZ op)) ∧ w' = w := by
  go_enter Tryz.func84, Tryz.ntmps84
  go_wp2
  all_goals
    go_ret
    refine ⟨?_, rfl⟩
    simp_all [dualZ]
theorem full_any (op : Int) (w : World) : Calls Tryz.prog 83 #[.int .i64 op] w fun e w' => e = .returned (.int .i64 (fullZ op)) ∧ w' = w := by
  go_enter Tryz.func83, Tryz.ntmps83
  go_wp2
  all_goals
    go_ret
    refine ⟨?_, rfl⟩
    simp_all [fullZ]
end Go.Proofs.YtdakdpfofgkjoaaGreatDoor
set_option linter.unusedVariables false
set_option linter.unusedSimpArgs false
namespace Go.Proofs.YtdakdpfofgkjoaaGreatDoor
open Go.RowKit
attribute [local go_sem] cell_alloc_old

theorem sizes_append : ∀ l m : List Fm, sizes (l ++ m) = sizes l + sizes m
  | [], m => by simp [sizes]
  | f :: l, m => by simp only [List.cons_append, sizes, sizes_append l m]; omega
theorem sizes_snoc (l : List Fm) {i : Nat} (hi : i < l.length) : sizes (l.take (i + 1)) = sizes (l.take i) + (l.getD i default).size := by
  rw [take_succ_getD l default hi, sizes_append]
  simp [sizes]
theorem sizes_take (l : List Fm) (i : Nat) : sizes (l.take i) ≤ sizes l := by
  have := sizes_append (l.take i) (l.drop i)
  rw [List.take_append_drop] at this
  omega
/-- A formula in a box. -/
def Box5 (w : World) (k : Nat) (f : Fm) (A : Option Addr) (c : Nat) : Prop := w.heap[k]? = some (.cells #[.int .i64 f.op, .string f.name, .int .i64 f.val, .int .i64 f.bound, .slice A f.args.length c] 28 (0, 0))
theorem Box5.cells {w : World} {k : Nat} {f : Fm} {A : Option Addr} {c : Nat} (h : Box5 w k f A c) : w.cell? ⟨k, 0, none⟩ = some (.int .i64 f.op) ∧ w.cell? ⟨k, 1, none⟩ = some (.string f.name) ∧ w.cell? ⟨k, 2, none⟩ = some (.int .i64 f.val) ∧ w.cell? ⟨k, 3, none⟩ = some (.int .i64 f.bound) ∧ w.cell? ⟨k, 4, none⟩ = some (.slice A f.args.length c) ∧ k < w.heap.size :=
  ⟨block_cell h rfl, block_cell h rfl, block_cell h rfl, block_cell h rfl, block_cell h rfl, lt_of_block h⟩
theorem Box5.below {w w' : World} {k : Nat} {f : Fm} {A : Option Addr} {c : Nat} (h : Box5 w k f A c) (hb : Below w.heap.size w w') : Box5 w' k f A c := (hb.block _ (lt_of_block h)).trans h
theorem Box5.new (w : World) (f : Fm) (A : Option Addr) (c : Nat) : Box5 (w.alloc (.cells #[.int .i64 f.op, .string f.name, .int .i64 f.val, .int .i64 f.bound, .slice A f.args.length c] 28)) w.heap.size f A c := heap_alloc_new w _
set_option maxRecDepth 100000 in
set_option maxHeartbeats 2000000 in
theorem capped_any (f : Fm) : ∀ {D : Dom} (v : Value) (limit : Nat) (w : World) (h : RdF3 w D v f) (hl : limit ≤ 1000000),
    Calls Tryz.prog 28 #[v, .int .i64 (limit : Int)] w fun e w' => e = .returned (.int .i64 ((min f.size (limit + 1) : Nat) : Int)) ∧ Below w.heap.size w w' := by
  refine Fm.induct (P := fun f => ∀ {D : Dom} (v : Value) (limit : Nat) (w : World) (h : RdF3 w D v f) (hl : limit ≤ 1000000), Calls Tryz.prog 28 #[v, .int .i64 (limit : Int)] w fun e w' => e = .returned (.int .i64 ((min f.size (limit + 1) : Nat) : Int)) ∧ Below w.heap.size w w') ?_ f
  intro f ih D v limit w h hl
  have HIH := hid ih
  have hsz := Fm.size_eq f
  obtain ⟨A, c, rfl, ha⟩ := h
  have HA := hid ha.old
  have hal := ha.len.1
  clear ih ha
  go_enter Tryz.func28, Tryz.ntmps28
  go_upto_region 1 with (fail)
  refine wp_gen fun W hW => ?_
  have hbx : Box5 W w.heap.size f A c := by rw [hW]; exact Box5.new w f A c
  have hb : Below w.heap.size w W := by rw [hW]; go_grown
  have HBX := hid hbx
  have HBW := hid hb
  have HSZ := hid hsz
  clear hW hbx hb hsz
  go_wp2_with fail
  go_loopw [5, 6] (fun s q wr => ∃ (i n : Nat), i ≤ f.args.length ∧ n = min (1 + sizes (f.args.take i)) (limit + 1) ∧ s = .int .i64 (n : Int) ∧ q = .int .i64 (i : Int) ∧ Below W.heap.size W wr) (fun _ q _ => f.args.length - (intOf q).toNat)
  case atStart => exact ⟨0, 1, Nat.zero_le _, by simp [sizes], rfl, rfl, Below.refl _ _⟩
  case round =>
    obtain ⟨i, n, hi, hn, rfl, rfl, hb⟩ := hrel
    obtain ⟨x0, x1, x2, x3, x4, xl⟩ := (HBX.out.below hb).cells
    have HB := hid hb
    have HBR := hid (HBW.out.trans (hb.mono HBW.out.size))
    have HN := hid hn
    have hnl : n ≤ limit + 1 := by omega
    clear hb hn
    by_cases hlt : i < f.args.length
    · have hii : (i : Int) < f.args.length := by omega
      by_cases hle : n ≤ limit
      · have hlei : (n : Int) ≤ limit := by omega
        obtain ⟨b, o, A', c', g, rfl, HG, hg⟩ := (HA.out.keep (Keeps.of_below HBR.out fun _ h => h)).get hlt
        obtain ⟨gd, gl, g0, g1, g2, g3, g4, ga⟩ := hg
        have hcall := HIH.out i hlt (D := (· < w.heap.size)) (.agg #[.int .i64 g.op, .string g.name, .int .i64 g.val, .int .i64 g.bound, .slice A' g.args.length c']) (limit - n) wr (by rw [HG.out]; exact ⟨A', c', rfl, ga⟩) (by omega)
        rw [HG.out] at hcall
        have hsub : ((limit - n : Nat) : Int) = (limit : Int) - (n : Int) := by omega
        rw [hsub] at hcall
        have hsn := sizes_snoc f.args hlt
        rw [HG.out] at hsn
        have HCALL := hid hcall
        have HSN := hid hsn
        clear hcall hsub ga hsn
        go_wp2_with fail
        refine HCALL.out.mono ?_
        rintro e w1 ⟨rfl, hb1⟩
        have HB1 := hid (HB.out.trans (hb1.mono HB.out.size))
        have hmn : min g.size (limit - n + 1) ≤ limit - n + 1 := Nat.min_le_right _ _
        obtain ⟨m, hm⟩ : ∃ m, m = min g.size (limit - n + 1) := ⟨_, rfl⟩
        rw [← hm] at hmn ⊢
        have HM := hid hm
        clear hb1 hm
        go_wp2_with fail
        go_roundw
        case rel =>
          refine ⟨i + 1, n + m, by omega, ?_, by go_num, by go_num, HB1.out⟩
          rw [HSN.out, HM.out]
          have := HN.out
          omega
        case measure => simp [intOf]; omega
      · have hlei : ¬ (n : Int) ≤ limit := by omega
        have hd : decide ((n : Int) ≤ limit) = false := decide_eq_false hlei
        have hres : min f.size (limit + 1) = n := by
          have h1 := sizes_take f.args i
          have := HN.out
          have := HSZ.out
          omega
        have HRES := hid hres
        clear hres
        go_wp2_with fail
        go_ret
        exact ⟨ret_int (by rw [HRES.out]), HBR.out⟩
    · have hie : f.args.take i = f.args := List.take_of_length_le (by omega)
      have hres : min f.size (limit + 1) = n := by have := HN.out; rw [hie] at this; have := HSZ.out; omega
      have HRES := hid hres
      clear hie hres
      go_wp2_with fail
      go_ret
      exact ⟨ret_int (by rw [HRES.out]), HBR.out⟩
/-- Has the formula at most so many nodes? -/
theorem rsmall_any {D : Dom} (f : Fm) (v : Value) (limit : Nat) (w : World) (h : RdF3 w D v f) (hl : limit ≤ 1000000) :
    Calls Tryz.prog 7 #[v, .int .i64 (limit : Int)] w fun e w' => e = .returned (.bool (decide (f.size ≤ limit))) ∧ Below w.heap.size w w' := by
  obtain ⟨A, c, rfl, ha⟩ := h
  have HA := hid ha.old
  clear ha
  go_enter Tryz.func7, Tryz.ntmps7
  go_upto_region 1 with (fail)
  refine wp_gen fun W hW => ?_
  have hbx : Box5 W w.heap.size f A c := by rw [hW]; exact Box5.new w f A c
  have HBW := hid (show Below w.heap.size w W by rw [hW]; go_grown)
  obtain ⟨x0, x1, x2, x3, x4, xl⟩ := hbx.cells
  clear hW hbx
  go_wp2_with fail
  refine (capped_any f _ limit W ⟨A, c, rfl, HA.out.keep (Keeps.of_below HBW.out fun _ h => h)⟩ hl).mono ?_
  rintro e w1 ⟨rfl, hb1⟩
  have HB1 := hid (HBW.out.trans (hb1.mono HBW.out.size))
  obtain ⟨m, hm⟩ : ∃ m, m = min f.size (limit + 1) := ⟨_, rfl⟩
  rw [← hm]
  have HM := hid hm
  clear hb1 hm
  go_wp2_with fail
  go_ret
  refine ⟨ret_bool ?_, HB1.out⟩
  have := HM.out
  by_cases h : f.size ≤ limit
  · rw [decide_eq_true h]; simp; omega
  · rw [decide_eq_false h]; simp; omega
end Go.Proofs.YtdakdpfofgkjoaaGreatDoor
