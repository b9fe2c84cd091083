/-
  The contracts of maps.Keys, slices.Sorted, slices.Sort and slices.Clone at the numbers of this program (laid by a tool of the kit).
  Sorted keys of a set, sorting of a slice of ints, copies of a slice of ints: contracts.
  Walk of the program: Valid (trees), Start.
  What Step keeps while it lays the tree after a letter.
  Walk of the program: Step.
-/
import Derived.Shelf.SlIterI.Nil
import Derived.Shelf.SortM.Plain
import Derived.Shelf.SortM.SortNone
import Derived.Shelf.SlicesE.Clone
import Derived.Test.YthhknonaebnooaaChecked
import Derived.Sort.OwnSortedInts
import Derived.Shelf.AbstractIn
import Derived.Test.YthhknonaebnooaaZ07
import Derived.Test.YthhknonaebnooaaZ02
namespace Go.Proofs.Ythhknonaebnooaa
open Go.Shelf
def keysA_ren : Go.Shelf.Ren := ⟨fun | 7 => 38 | 10 => 64 | n => n, fun | 23 => 65 | 26 => 3 | 3 => 4 | 28 => 70 | 0 => 0 | 27 => 69 | 33 => 102 | 4 => 4 | n => n, fun | n => n⟩
theorem keysA : Go.Proofs.SlLaysZI.n7 Try.prog keysA_ren := {
  mixed := by kernel_rfl
  f7 := ⟨Try.f38.name, by decide, Try.func38.trans (congrArg some (by kernel_rfl))⟩
  f10 := ⟨Try.f64.name, by decide, Try.func64.trans (congrArg some (by kernel_rfl))⟩
  t0 := Try.underlying0
  a0 := Try.isAgg0
  z0 := Try.sizeOf0
  v0 := Try.zeroValue0
  t4 := Try.underlying4
  a4 := Try.isAgg4
  z4 := Try.sizeOf4
  v4 := Try.zeroValue4
  t23 := Try.underlying65
  a23 := Try.isAgg65
  z23 := Try.sizeOf65
  v23 := Try.zeroValue65
  t26 := Try.underlying3
  a26 := Try.isAgg3
  z26 := Try.sizeOf3
  v26 := Try.zeroValue3
  t27 := Try.underlying69
  a27 := Try.isAgg69
  z27 := Try.sizeOf69
  v27 := Try.zeroValue69
  t28 := Try.underlying70
  a28 := Try.isAgg70
  z28 := Try.sizeOf70
  v28 := Try.zeroValue70
  t33 := Try.underlying102
  a33 := Try.isAgg102
  z33 := Try.sizeOf102
  v33 := Try.zeroValue102 }
def sortedA_ren : Go.Shelf.Ren := ⟨fun | 6 => 37 | 8 => 63 | 9 => 39 | 11 => 81 | 13 => 66 | 12 => 65 | 23 => 91 | 24 => 92 | 14 => 82 | 15 => 83 | 16 => 84 | 17 => 85 | 18 => 86 | 19 => 87 | 20 => 88 | 21 => 89 | 22 => 90 | 25 => 96 | 26 => 97 | 27 => 98 | 28 => 99 | 29 => 100 | 30 => 101 | 31 => 104 | n => n, fun | 26 => 3 | 28 => 70 | 24 => 22 | 0 => 0 | 3 => 3 | 37 => 105 | 48 => 127 | 50 => 129 | 4 => 4 | 40 => 120 | 39 => 119 | 45 => 114 | 5 => 5 | 9 => 9 | 51 => 132 | 55 => 136 | 57 => 139 | 58 => 140 | 33 => 102 | n => n, fun | n => n⟩
theorem sortedA : Go.Proofs.SlLaysZI.n6 Try.prog sortedA_ren := {
  mixed := by kernel_rfl
  f6 := ⟨Try.f37.name, by decide, Try.func37.trans (congrArg some (by kernel_rfl))⟩
  f8 := ⟨Try.f63.name, by decide, Try.func63.trans (congrArg some (by kernel_rfl))⟩
  f11 := ⟨Try.f81.name, by decide, Try.func81.trans (congrArg some (by kernel_rfl))⟩
  t0 := Try.underlying0
  a0 := Try.isAgg0
  z0 := Try.sizeOf0
  v0 := Try.zeroValue0
  t24 := Try.underlying22
  a24 := Try.isAgg22
  z24 := Try.sizeOf22
  v24 := Try.zeroValue22
  t26 := Try.underlying3
  a26 := Try.isAgg3
  z26 := Try.sizeOf3
  v26 := Try.zeroValue3
  t28 := Try.underlying70
  a28 := Try.isAgg70
  z28 := Try.sizeOf70
  v28 := Try.zeroValue70
  i26 := by kernel_rfl }
def sortA_ren : Go.Shelf.Ren := ⟨fun | 5 => 39 | 8 => 66 | 7 => 65 | 19 => 91 | 20 => 92 | 10 => 82 | 11 => 83 | 12 => 84 | 13 => 85 | 14 => 86 | 15 => 87 | 16 => 88 | 17 => 89 | 18 => 90 | 30 => 96 | 31 => 97 | 32 => 98 | 33 => 99 | 34 => 100 | 35 => 101 | 40 => 104 | n => n, fun | 23 => 22 | 25 => 3 | 3 => 3 | 32 => 105 | 22 => 22 | 0 => 0 | 44 => 127 | 46 => 129 | 4 => 4 | 36 => 120 | 35 => 119 | 41 => 114 | 5 => 5 | 9 => 9 | 53 => 132 | 57 => 136 | 63 => 139 | 64 => 140 | n => n, fun | n => n⟩
theorem sortA : Go.Proofs.SlLaysM.n5 Try.prog sortA_ren := {
  mixed := by kernel_rfl
  f5 := ⟨Try.f39.name, by decide, Try.func39.trans (congrArg some (by kernel_rfl))⟩
  f7 := ⟨Try.f65.name, by decide, Try.func65.trans (congrArg some (by kernel_rfl))⟩
  f8 := Try.func66.trans (congrArg some (by kernel_rfl))
  f10 := ⟨Try.f82.name, by decide, Try.func82.trans (congrArg some (by kernel_rfl))⟩
  f11 := ⟨Try.f83.name, by decide, Try.func83.trans (congrArg some (by kernel_rfl))⟩
  f12 := ⟨Try.f84.name, by decide, Try.func84.trans (congrArg some (by kernel_rfl))⟩
  f13 := ⟨Try.f85.name, by decide, Try.func85.trans (congrArg some (by kernel_rfl))⟩
  f14 := ⟨Try.f86.name, by decide, Try.func86.trans (congrArg some (by kernel_rfl))⟩
  f15 := ⟨Try.f87.name, by decide, Try.func87.trans (congrArg some (by kernel_rfl))⟩
  f16 := ⟨Try.f88.name, by decide, Try.func88.trans (congrArg some (by kernel_rfl))⟩
  f17 := ⟨Try.f89.name, by decide, Try.func89.trans (congrArg some (by kernel_rfl))⟩
  f18 := ⟨Try.f90.name, by decide, Try.func90.trans (congrArg some (by kernel_rfl))⟩
  f19 := Try.func91.trans (congrArg some (by kernel_rfl))
  f20 := Try.func92.trans (congrArg some (by kernel_rfl))
  f30 := ⟨Try.f96.name, by decide, Try.func96.trans (congrArg some (by kernel_rfl))⟩
  f31 := Try.func97.trans (congrArg some (by kernel_rfl))
  f32 := Try.func98.trans (congrArg some (by kernel_rfl))
  f33 := ⟨Try.f99.name, by decide, Try.func99.trans (congrArg some (by kernel_rfl))⟩
  f34 := ⟨Try.f100.name, by decide, Try.func100.trans (congrArg some (by kernel_rfl))⟩
  f35 := ⟨Try.f101.name, by decide, Try.func101.trans (congrArg some (by kernel_rfl))⟩
  f40 := ⟨Try.f104.name, by decide, Try.func104.trans (congrArg some (by kernel_rfl))⟩
  t0 := Try.underlying0
  a0 := Try.isAgg0
  z0 := Try.sizeOf0
  v0 := Try.zeroValue0
  t3 := Try.underlying3
  a3 := Try.isAgg3
  z3 := Try.sizeOf3
  v3 := Try.zeroValue3
  t4 := Try.underlying4
  a4 := Try.isAgg4
  z4 := Try.sizeOf4
  v4 := Try.zeroValue4
  t5 := Try.underlying5
  a5 := Try.isAgg5
  z5 := Try.sizeOf5
  v5 := Try.zeroValue5
  t9 := Try.underlying9
  a9 := Try.isAgg9
  z9 := Try.sizeOf9
  v9 := Try.zeroValue9
  t22 := Try.underlying22
  a22 := Try.isAgg22
  z22 := Try.sizeOf22
  v22 := Try.zeroValue22
  t23 := Try.underlying22
  a23 := Try.isAgg22
  z23 := Try.sizeOf22
  v23 := Try.zeroValue22
  t25 := Try.underlying3
  a25 := Try.isAgg3
  z25 := Try.sizeOf3
  v25 := Try.zeroValue3
  t32 := Try.underlying105
  a32 := Try.isAgg105
  z32 := Try.sizeOf105
  v32 := Try.zeroValue105
  t35 := Try.underlying119
  a35 := Try.isAgg119
  z35 := Try.sizeOf119
  v35 := Try.zeroValue119
  t36 := Try.underlying120
  a36 := Try.isAgg120
  z36 := Try.sizeOf120
  v36 := Try.zeroValue120
  t41 := Try.underlying114
  a41 := Try.isAgg114
  z41 := Try.sizeOf114
  v41 := Try.zeroValue114
  t44 := Try.underlying127
  a44 := Try.isAgg127
  z44 := Try.sizeOf127
  v44 := Try.zeroValue127
  t46 := Try.underlying129
  a46 := Try.isAgg129
  z46 := Try.sizeOf129
  v46 := Try.zeroValue129
  t53 := Try.underlying132
  a53 := Try.isAgg132
  z53 := Try.sizeOf132
  v53 := Try.zeroValue132
  t57 := Try.underlying136
  a57 := Try.isAgg136
  z57 := Try.sizeOf136
  v57 := Try.zeroValue136
  t63 := Try.underlying139
  a63 := Try.isAgg139
  z63 := Try.sizeOf139
  v63 := Try.zeroValue139
  t64 := Try.underlying140
  a64 := Try.isAgg140
  z64 := Try.sizeOf140
  v64 := Try.zeroValue140 }
def cloneA_ren : Go.Shelf.Ren := ⟨fun | 41 => 46 | n => n, fun | 22 => 22 | 23 => 3 | 4 => 4 | n => n, fun | n => n⟩
theorem cloneA : Go.Proofs.SlLaysE0.n41 Try.prog cloneA_ren := {
  mixed := by kernel_rfl
  f41 := ⟨Try.f46.name, by decide, Try.func46.trans (congrArg some (by kernel_rfl))⟩
  t4 := Try.underlying4
  a4 := Try.isAgg4
  z4 := Try.sizeOf4
  v4 := Try.zeroValue4
  t22 := Try.underlying22
  a22 := Try.isAgg22
  z22 := Try.sizeOf22
  v22 := Try.zeroValue22 }
end Go.Proofs.Ythhknonaebnooaa
set_option linter.unusedVariables false
set_option linter.unusedSimpArgs false
namespace Go.Proofs.Ythhknonaebnooaa
open Go.RowKit Go.Maps Go.Sort Go.Shelf Go.Proofs

/-- What an element reads as: nothing. -/
def r0 : Value → Option (DataW Unit × List MemPlace) := fun _ => some (.nil, [])
theorem set_owns {w : World} {mb : Nat} {ks : List Int} (h : MSet w mb ks) (hr : ∀ z ∈ ks, (Lit.int .i64 z).wf = true) (hn : ks.length ≤ maxLen) :
    ∃ D0 : DataW Unit, w.ownsMap Try.prog 3 r0 mb ks.length D0 ∧ (intKeys D0).Perm ks ∧ Maps.size D0 = ks.length := by
  obtain ⟨es, clock, h1, h2, h3⟩ := h.map
  have hk : es.toList.map (·.key) = ks.map (Value.int .i64) := by
    have := MapIs.keys (w := w) h2
    rw [setV_keys] at this
    exact this
  have hlen : es.toList.length = ks.length := by have := congrArg List.length hk; simpa using this
  have hko : ∀ z, (Lit.int .i64 z).wf = true → keyOf Try.prog 3 (.int .i64 z) = some (.int .i64 z) := fun z hz => keyOf_int_mk Try.underlying3 hz
  have hkey : ∀ i (hi : i < es.toList.length), es.toList[i].key = .int .i64 (ks[i]'(by omega)) := fun i hi => by
    have e1 : (es.toList.map (·.key))[i]? = (ks.map (Value.int .i64))[i]? := by rw [hk]
    rw [List.getElem?_map, List.getElem?_map, List.getElem?_eq_getElem hi, List.getElem?_eq_getElem (by omega)] at e1
    simpa using e1
  have hrd : ∀ i (hi : i < es.toList.length), WideElems.rd Try.prog 3 r0 es.toList[i] = some (.int .i64 (ks[i]'(by omega)), .nil) := fun i hi => by
    unfold WideElems.rd
    rw [hkey i hi, hko _ (hr _ (List.getElem_mem _))]
    rfl
  have hnk : (es.toList.map (·.key)).Nodup := by
    rw [hk]
    rw [List.Nodup, List.pairwise_map]
    exact h.nd.imp fun hne e => hne (by injection e)
  have hclk : ∀ x ∈ es.toList, x.born < clock := fun x hx => by
    have : x.born ∈ es.toList.map (·.born) := List.mem_map_of_mem hx
    rw [h3] at this
    exact List.mem_range.1 this
  have hfit : WideElems.Fit Try.prog 3 r0 es clock := by
    refine ⟨?_, ⟨hclk, by rw [h3]; exact List.nodup_range, hnk⟩, fun x hx => ?_⟩
    · have : es.size = ks.length := by rw [← hlen]; simp
      omega
    · obtain ⟨i, hi, rfl⟩ := List.getElem_of_mem hx
      exact ⟨_, hrd i hi⟩
  refine ⟨_, ⟨es, clock, h1, hfit, by rw [← hlen]; simp, rfl⟩, ?_, ?_⟩
  · have hp := WideShapes.sorted_perm (es.toList.map (WideElems.rg Try.prog 3 r0))
    have hq := hp.map (fun p => Go.intOf p.1)
    refine List.Perm.trans hq ?_
    rw [List.map_map]
    have : es.toList.map ((fun p : Lit × DataW Unit => Go.intOf p.1) ∘ WideElems.rg Try.prog 3 r0) = ks := by
      apply List.ext_getElem (by simpa using hlen)
      intro i h4 h5
      rw [List.length_map] at h4
      have e1 := hrd i h4
      rw [List.getElem_map, Function.comp_apply, WideElems.rg_of e1]
      rfl
    exact List.Perm.of_eq this
  · have hp := WideShapes.sorted_perm (es.toList.map (WideElems.rg Try.prog 3 r0))
    have := hp.length_eq
    rw [List.length_map, hlen] at this
    exact this
theorem sortsIn_any (m : Nat) : AnyZI.SortsIn Try.prog sortedA_ren Fence.wide m :=
  ⟨fun blk off cap ss W hH hblk hsz => callsIn_wide.2 (AnyM.slices_Sort_int sortA blk off cap ss W hH hblk hsz),
   fun p cap W => callsIn_wide.2 (AnyM.slices_Sort_int_none sortA p cap W)⟩
theorem keys_any (mb : Nat) (W : World) : Calls Try.prog 38 #[.map (some mb)] W fun e w' => e = .returned (.func (.func 64) #[] #[.pointer (some ⟨W.heap.size, 0, none⟩)]) ∧ w' = W.alloc (.cells #[.map (some mb)] 65) :=
  (callsIn_wide (n := 5)).1 (AnyZI.keys_in keysA Fence.wide 5 trivial rfl (some mb) W)
theorem merge_sorted {l : List Int} (h : l.Pairwise (· < ·)) {ss : List Int} (hp : ss.Perm l) : ss.mergeSort (fun x y => decide (x ≤ y)) = l := by
  have h1 := mergeSort_of_perm_i hp
  have h2 : l.mergeSort (fun x y => decide (x ≤ y)) = l := List.mergeSort_of_pairwise (h.imp fun h => by simp; omega)
  exact h1.trans h2
theorem sorted_any (mb : Nat) (S : List Int) (w : World) (h : SetIs w mb S) (hS : S.Pairwise (· < ·)) (hr : ∀ z ∈ S, 0 ≤ z ∧ z ≤ 3000) (hn : S.length ≤ 3000) :
    Calls Try.prog 37 #[.func (.func 64) #[] #[.pointer (some ⟨w.heap.size, 0, none⟩)]] (w.alloc (.cells #[.map (some mb)] 65)) fun e w' => ∃ A c, e = .returned (.slice A S.length c) ∧ Below w.heap.size w w' ∧ RdI w' (fun k => w.heap.size ≤ k) A c S := by
  obtain ⟨ks, hm, hp⟩ := h
  obtain ⟨D0, hown, hkp, hsz⟩ := set_owns hm (fun z hz => by
    have := hr z (hp.mem_iff.1 hz)
    show (decide (IntKind.i64.min ≤ z) && decide (z ≤ IntKind.i64.max)) = true
    rw [Bool.and_eq_true]
    exact ⟨decide_eq_true (by show (-9223372036854775808 : Int) ≤ z; omega), decide_eq_true (by show z ≤ (9223372036854775807 : Int); omega)⟩) (by unfold maxLen; rw [hp.length_eq]; omega)
  have hl := hp.length_eq
  refine (callsIn_wide (n := 5)).1 ?_
  have hseq : SeqGives Fence.wide 2 Try.prog 64 #[.pointer (some ⟨w.heap.size, 0, none⟩)] encZ (fun ss => ss.Perm (intKeys D0)) (Maps.size D0) (w.alloc (.cells #[.map (some mb)] 65)) :=
    AnyZI.keys_gives (ρ := keysA_ren) { keysA with } Fence.wide _ trivial rfl (by omega) w.heap.size mb ks.length D0 _ (by simp) (by simp) (by
      obtain ⟨es, clock, hb, Ft, hs, hD⟩ := hown
      exact ⟨es, clock, (Below.heap_alloc _ _ mb hm.lt).trans hb, Ft, hs, hD⟩)
  have cS := AnyZI.sorted_in sortedA Fence.wide 5 trivial trivial trivial trivial rfl (by omega) (sortsIn_any _) (enters_of Try.func39 (by kernel_rfl) rfl) 64 #[.pointer (some ⟨w.heap.size, 0, none⟩)] trivial (enters_of Try.func64 (by kernel_rfl) rfl) _ _ (by rw [hsz]; unfold maxLen; omega) (by rw [hsz]; omega) _ hseq
  refine CallsIn.mono cS ?_
  rintro e w' ⟨v, ss, rfl, hS', hrow, hnil, hb⟩
  have hss : ss.Perm S := hS'.trans (hkp.trans hp)
  have hms := merge_sorted hS hss
  rw [hms] at hrow
  have hsl := hss.length_eq
  rw [hsl] at hrow
  obtain ⟨A, c, rfl⟩ := own_shape hrow
  have hrow' : w'.ownsRow (w.alloc (.cells #[.map (some mb)] 65)).heap.size 3 1 (.slice A S.length c) S.length (S.map (.int .i64)) := hrow
  refine ⟨A, c, rfl, ((Below.refl _ w).alloc (Nat.le_refl _) _).trans (hb.mono (by simp)), ?_⟩
  unfold RdI
  exact Rd.own hrow' (by omega) (fun k hk => by simp at hk; omega)
/-- A slice of ints of the call's own, sorted in place. -/
theorem sorti_any (base : Nat) (A : Option Addr) (c : Nat) (zs : List Int) (w : World) (h : w.ownsRow base 3 1 (.slice A zs.length c) zs.length (zs.map (.int .i64))) (hn : zs.length ≤ 3000) :
    Calls Try.prog 39 #[.slice A zs.length c] w fun e w' => e = .returned (.tuple #[]) ∧ w'.ownsRow base 3 1 (.slice A zs.length c) zs.length ((zs.mergeSort (fun x y => decide (x ≤ y))).map (.int .i64)) ∧ w.grownBy w' (Value.slice A zs.length c).ownBlock := by
  by_cases h0 : zs = []
  · subst h0
    refine (AnyM.slices_Sort_int_none sortA A c w).mono ?_
    rintro e w' ⟨rfl, rfl⟩
    exact ⟨rfl, by simpa using h, World.grownBy.refl w' _⟩
  · rcases h.2 with ⟨_, hl⟩ | ⟨g, cap, cur, hv, hb, hh, h1, h2, hsz, htk⟩
    · exact absurd (List.eq_nil_of_length_eq_zero hl) h0
    · injection hv with e1 e2 e3
      subst e1 e3
      rw [Nat.mul_one] at htk
      have hH := holds_of_blockI hh htk
      refine (AnyM.slices_Sort_int sortA g 0 c zs w hH (lt_of_block hh) (by omega)).mono ?_
      rintro e w' ⟨rfl, n, os, rfl⟩
      exact ⟨rfl, ownsRow_sortedI (List.length_mergeSort zs) hb hh h1 h2 hsz, grownBy_sortedI _⟩
/-- A copy of a slice of ints. -/
theorem clone_any {D : Dom} (A : Option Addr) (c : Nat) (zs : List Int) (w : World) (h : RdI w D A c zs) (hn : zs.length ≤ 3000) (hpos : 0 < zs.length) :
    Calls Try.prog 46 #[.slice A zs.length c] w fun e w' => ∃ A' c', e = .returned (.slice A' zs.length c') ∧ Below w.heap.size w w' ∧ RdI w' (fun k => w.heap.size ≤ k) A' c' zs := by
  obtain ⟨i0, hti, hz0, hz1, hz2⟩ := info_parts int_info
  obtain ⟨b, o, rfl, _, hbl, hc⟩ := (show Rd w D 1 A zs.length c (zs.map (.int .i64)) from h).2 hpos
  refine (AnyE.slices_Clone cloneA i0 _ 1 8 hti hz0 hz1 hz2 rfl (by omega) Try.sizeOf3 b o zs.length c (zs.map (.int .i64)) w (by simp) (by unfold maxLen; omega) (by omega) hc (ints_one zs)).mono ?_
  rintro e w' ⟨v, rfl, hown, _, hb⟩
  obtain ⟨A', c', rfl⟩ := own_shape hown
  refine ⟨A', c', rfl, hb, ?_⟩
  unfold RdI
  exact Rd.own hown (by omega) (fun k hk => hk)
end Go.Proofs.Ythhknonaebnooaa
set_option linter.unusedVariables false
set_option linter.unusedSimpArgs false
namespace Go.Proofs.Ythhknonaebnooaa
open Go.RowKit
attribute [local go_sem] cell_alloc_old

theorem bodyPost_gen {P : Program} {f : Func} {Q : Ending → World → Prop} {e : Exit} {a : Act} {w : World} (h : ∀ W, W = w → bodyPost P f Q e a W) : bodyPost P f Q e a w := h w rfl
theorem buchi_len {b : Bu} (h : buchiB b = true) : b.next.length ≤ 3000 := by
  unfold buchiB at h
  simp only [Bool.and_eq_true, decide_eq_true_eq] at h
  exact h.1.1.2
set_option maxHeartbeats 2000000 in
theorem tvalid_any {D E : Dom} (v : Value) (b : Bu) (A : Option Addr) (c : Nat) (t : List Nd) (w : World) (h : RdBu w D v b) (ht : RdN w E A c t) :
    Calls Try.prog 19 #[v, .slice A t.length c] w fun e w' => e = .returned (.bool (treeB b t)) ∧ Below w.heap.size w w' := by
  have HV := hid h.old
  have HT := hid ht.old
  have htl := ht.len.1
  obtain ⟨As, cs, An, cn, rfl, ho, hn⟩ := h
  have hnl := hn.len.1
  clear ho hn ht
  have hbox : HasB (w.alloc (.cells #[.int .i64 b.letters, .slice As b.start.length cs, .slice An b.next.length cn] 25)) w.heap.size #[.int .i64 b.letters, .slice As b.start.length cs, .slice An b.next.length cn] b := HasB.new HV.out
  obtain ⟨W, hW⟩ : ∃ W, W = w.alloc (.cells #[.int .i64 b.letters, .slice As b.start.length cs, .slice An b.next.length cn] 25) := ⟨_, rfl⟩
  rw [← hW] at hbox
  have hcall := bvalid_any (.agg #[.int .i64 b.letters, .slice As b.start.length cs, .slice An b.next.length cn]) b W hbox.rd
  have hb1 : Below w.heap.size w W := by rw [hW]; go_grown
  have HBOX := hid hbox
  have HB1 := hid hb1
  have hsz : w.heap.size < W.heap.size := by rw [hW]; simp
  obtain ⟨bv, hbv⟩ : ∃ bv, buchiB b = bv := ⟨_, rfl⟩
  rw [hbv] at hcall
  rw [hW] at hcall
  have HCALL := hid hcall
  have HW := hid hW
  have HBV := hid hbv
  clear hW hbox hcall hb1 hbv
  cases bv
  · go_enter Try.func19, Try.ntmps19
    go_wp2_with ((refine HCALL.out.mono ?_); rintro e w1 ⟨rfl, hb2⟩; rw [← HW.out] at hb2; have HB2 := hid hb2; clear hb2)
    go_ret
    refine ⟨ret_bool (by unfold treeB; rw [HBV.out]; rfl), HB1.out.trans (HB2.out.mono (by omega))⟩
  · have hn3 := buchi_len HBV.out
    by_cases hle : t.length ≤ b.next.length
    · have hld : decide ((t.length : Int) ≤ (b.next.length : Int)) = true := decide_eq_true (by omega)
      have hln : decide (t.length ≤ b.next.length) = true := decide_eq_true hle
      have hcall2 : ∀ w1, Below W.heap.size W w1 → Calls Try.prog 47 #[.int .i64 (b.next.length : Int), .slice A t.length c] w1 fun e w' => e = .returned (.bool (allN t.length (nodeB b.next.length t))) ∧ Below w1.heap.size w1 w' := fun w1 hb =>
        valid_any b.next.length A c t w1 (HT.out.keep (Keeps.of_below (HB1.out.trans (hb.mono (Nat.le_of_lt hsz))) fun _ h => h)) hn3 (by omega)
      have HC2 := hid hcall2
      have HLE := hid hle
      clear hle hcall2
      go_enter Try.func19, Try.ntmps19
      go_wp2_with (first | (go_at_call 45; refine HCALL.out.mono ?_; rintro e w1 ⟨rfl, hb2⟩; rw [← HW.out] at hb2; have HB2 := hid hb2; have hm := (HBOX.out.below (hb2.mono (Nat.le_refl _))).cells; obtain ⟨x0, x1, x2, xl⟩ := hm; clear hb2) | (go_at_call 47; refine (HC2.out _ HB2.out).mono ?_; rintro e w2 ⟨rfl, hb3⟩; have HB3 := hid hb3; clear hb3))
      go_ret
      refine ⟨ret_bool (by unfold treeB; rw [HBV.out, decide_eq_true HLE.out]; rfl), ?_⟩
      have h1 := HB1.out.trans (HB2.out.mono (Nat.le_of_lt hsz))
      exact h1.trans (HB3.out.mono h1.size)
    · have hld : decide ((t.length : Int) ≤ (b.next.length : Int)) = false := decide_eq_false (by omega)
      have hln : decide (t.length ≤ b.next.length) = false := decide_eq_false hle
      have HLE := hid hle
      clear hle
      go_enter Try.func19, Try.ntmps19
      go_wp2_with (first | (go_at_call 45; refine HCALL.out.mono ?_; rintro e w1 ⟨rfl, hb2⟩; rw [← HW.out] at hb2; have HB2 := hid hb2; have hm := (HBOX.out.below (hb2.mono (Nat.le_refl _))).cells; obtain ⟨x0, x1, x2, xl⟩ := hm; clear hb2))
      go_ret
      exact ⟨ret_bool (by unfold treeB; rw [HBV.out, decide_eq_false HLE.out]; rfl), HB1.out.trans (HB2.out.mono (Nat.le_of_lt hsz))⟩

/-- The tree at the beginning. -/
def startT (b : Bu) : List Nd := if buchiB b then (if b.start.length = 0 then [] else [⟨1, -1, b.start⟩]) else []
theorem incB_lt {n : Int} {l : List Int} (h : incB n l = true) : l.Pairwise (· < ·) := inc_nodup fun k h0 hk => by
  have := allN_true.1 h k hk
  unfold incAt at this
  simp only [Bool.and_eq_true, Bool.or_eq_true, decide_eq_true_eq] at this
  exact this.2.resolve_left (by omega)
theorem range_sub {n : Nat} {l : List Int} (hn : l.Nodup) (h : ∀ x ∈ l, 0 ≤ x ∧ x < (n : Int)) : l.length ≤ n := by
  have := nodup_sub (m := (List.range n).map fun i : Nat => (i : Int)) hn (fun x hx => List.mem_map.2 ⟨x.toNat, List.mem_range.2 (by have := h x hx; omega), by have := h x hx; omega⟩)
  simpa using this
theorem start_len {b : Bu} (h : buchiB b = true) : b.start.length ≤ b.next.length := by
  unfold buchiB at h
  simp only [Bool.and_eq_true] at h
  refine range_sub (inc_nd (incB_lt h.1.2)) fun x hx => ?_
  obtain ⟨k, hk, rfl⟩ := List.getElem_of_mem hx
  have := incB_at h.1.2 hk
  simpa [List.getD, hk] using this
theorem build_st (A : Option Addr) (n c : Nat) (w : World) : (Instr.build 43 #[(0, .int .i64 1), (1, .int .i64 (-1)), (2, .slice A n c)]).run Try.prog w = .ok (.agg #[.int .i64 1, .int .i64 (-1), .slice A n c]) w := run_build w 43 _ _ (by kernel_rfl)
/-- A slice of one node. -/
theorem RdN.one {w : World} {D : Dom} {g A c : _} {x : Nd} (h0 : w.cell? ⟨g, 0, none⟩ = some (.int .i64 x.name)) (h1 : w.cell? ⟨g, 1, none⟩ = some (.int .i64 x.parent)) (h2 : w.cell? ⟨g, 2, none⟩ = some (.slice A x.set.length c)) (hr : RdI w D A c x.set) (hD : D g) : RdN w D (some ⟨g, 0, none⟩) 1 [x] := by
  refine ⟨[(A, c)], rfl, ⟨⟨by simp [ncells], by simp, by simp, by omega⟩, fun _ => ⟨g, 0, rfl, hD, World.block_lt_of_cell? w ⟨g, 0, none⟩ h0, fun j u hu => ?_⟩⟩, fun i hi => ?_⟩
  · simp only [List.zip_cons_cons, List.zip_nil_right, List.flatMap_cons, List.flatMap_nil, List.append_nil, ncells] at hu
    match j, hu with
    | 0, hu => simp at hu; subst hu; exact h0
    | 1, hu => simp at hu; subst hu; exact h1
    | 2, hu => simp at hu; subst hu; exact h2
    | j + 3, hu => simp at hu
  · obtain rfl : i = 0 := by simpa using hi
    exact hr
set_option maxHeartbeats 2000000 in
theorem start_any {D : Dom} (v : Value) (b : Bu) (w : World) (h : RdBu w D v b) :
    Calls Try.prog 17 #[v] w fun e w' => ∃ A c, e = .returned (.slice A (startT b).length c) ∧ Below w.heap.size w w' ∧ RdN w' (fun k => w.heap.size ≤ k) A c (startT b) := by
  have HV := hid h.old
  obtain ⟨As, cs, An, cn, rfl, ho, hn⟩ := h
  have hnl := hn.len.1
  have hsl := ho.len.1
  have HO := hid ho.old
  clear ho hn
  have hbs := build_st
  obtain ⟨W, hW⟩ : ∃ W, W = w.alloc (.cells #[.int .i64 b.letters, .slice As b.start.length cs, .slice An b.next.length cn] 25) := ⟨_, rfl⟩
  have hbox : HasB W w.heap.size #[.int .i64 b.letters, .slice As b.start.length cs, .slice An b.next.length cn] b := by rw [hW]; exact HasB.new HV.out
  have hcall := bvalid_any (.agg #[.int .i64 b.letters, .slice As b.start.length cs, .slice An b.next.length cn]) b W hbox.rd
  have hb1 : Below w.heap.size w W := by rw [hW]; go_grown
  have HBOX := hid hbox
  have HB1 := hid hb1
  have hsz : w.heap.size < W.heap.size := by rw [hW]; simp
  obtain ⟨bv, hbv⟩ : ∃ bv, buchiB b = bv := ⟨_, rfl⟩
  rw [hbv] at hcall
  rw [hW] at hcall
  have HCALL := hid hcall
  have HW := hid hW
  have HBV := hid hbv
  clear hW hbox hcall hb1 hbv
  cases bv
  · have hst : startT b = [] := by unfold startT; rw [HBV.out]; rfl
    rw [hst]
    clear hst
    go_enter Try.func17, Try.ntmps17
    go_wp2_with ((refine HCALL.out.mono ?_); rintro e w1 ⟨rfl, hb2⟩; rw [← HW.out] at hb2; have HB2 := hid hb2; clear hb2)
    go_ret
    exact ⟨none, 0, rfl, HB1.out.trans (HB2.out.mono (by omega)), RdN.nil _ _ _ (by omega)⟩
  · have hs3 := Nat.le_trans (start_len HBV.out) (buchi_len HBV.out)
    obtain ⟨ln, hln⟩ : ∃ ln, b.start.length = ln := ⟨_, rfl⟩
    by_cases h0 : ln = 0
    · have hst : startT b = [] := by unfold startT; rw [HBV.out, if_pos rfl, if_pos (by omega)]
      rw [hst]
      have hed : ((ln : Int) == 0) = true := by simp [h0]
      rw [hln] at HCALL HBOX HW
      rw [hln]
      clear hst h0 hln hs3 hsl
      go_enter Try.func17, Try.ntmps17
      go_wp2_with ((refine HCALL.out.mono ?_); rintro e w1 ⟨rfl, hb2⟩; rw [← HW.out] at hb2; have HB2 := hid hb2; have hm := (HBOX.out.below (hb2.mono (Nat.le_refl _))).cells; obtain ⟨x0, x1, x2, xl⟩ := hm; clear hb2)
      go_ret
      exact ⟨none, 0, rfl, HB1.out.trans (HB2.out.mono (by omega)), RdN.nil _ _ _ (by omega)⟩
    · have hst : startT b = [⟨1, -1, b.start⟩] := by unfold startT; rw [HBV.out, if_pos rfl, if_neg (by omega)]
      rw [hst]
      have hed : ((ln : Int) == 0) = false := beq_eq_false_iff_ne.2 (by omega)
      have hcl : ∀ w1, Below w.heap.size w w1 → Calls Try.prog 46 #[.slice As ln cs] w1 fun e w' => ∃ A' c', e = .returned (.slice A' ln c') ∧ Below w1.heap.size w1 w' ∧ RdI w' (fun k => w1.heap.size ≤ k) A' c' b.start := fun w1 hb => by
        have := clone_any As cs b.start w1 (HO.out.keep (Keeps.of_below hb fun _ h => h)) hs3 (by omega)
        rw [hln] at this; exact this
      have HCL := hid hcl
      have HLN := hid hln
      rw [hln] at HCALL HBOX HW
      rw [hln]
      clear hst h0 hln hs3 hsl hcl
      go_enter Try.func17, Try.ntmps17
      go_wp2_with (first | (go_at_call 45; refine HCALL.out.mono ?_; rintro e w1 ⟨rfl, hb2⟩; rw [← HW.out] at hb2; have HB2 := hid (HB1.out.trans (hb2.mono (Nat.le_of_lt hsz))); have hs1 := hb2.size; have hm := (HBOX.out.below (hb2.mono (Nat.le_refl _))).cells; obtain ⟨x0, x1, x2, xl⟩ := hm; clear hb2) | (go_at_call 46; refine (HCL.out _ HB2.out).mono ?_; rintro e w2 ⟨A', c', rfl, hb3, hr3⟩; have HB3 := hid hb3; have HR3 := hid hr3; have hs2 := hb3.size; clear hb3 hr3))
      refine bodyPost_gen fun W9 hW9 => ?_
      have hb9 : Below w2.heap.size w2 W9 := by rw [hW9]; go_grown
      have z0 : W9.cell? ⟨w2.heap.size, 0, none⟩ = some (.int .i64 1) := by rw [hW9]; exact cell_new w2 _ _ _ 0 _ rfl rfl
      have z1 : W9.cell? ⟨w2.heap.size, 1, none⟩ = some (.int .i64 (-1)) := by rw [hW9]; exact cell_new w2 _ _ _ 1 _ rfl rfl
      have z2 : W9.cell? ⟨w2.heap.size, 2, none⟩ = some (.slice A' ln c') := by rw [hW9]; exact cell_new w2 _ _ _ 2 _ rfl rfl
      have HB9 := hid hb9
      have HZ0 := hid z0
      have HZ1 := hid z1
      have HZ2 := hid z2
      clear hW9 hb9 z0 z1 z2
      go_ret
      refine ⟨_, _, rfl, HB2.out.trans ((HB3.out.trans (HB9.out.mono hs2)).mono (by omega)), RdN.one (A := A') (c := c') HZ0.out HZ1.out ?_ ?_ (by show w.heap.size ≤ w2.heap.size; omega)⟩
      · show W9.cell? _ = some (.slice A' b.start.length c')
        rw [HLN.out]; exact HZ2.out
      · exact (HR3.out.keep ((Keeps.refl _ _).below HB9.out)).mono fun k hk _ => by omega
end Go.Proofs.Ythhknonaebnooaa
set_option linter.unusedVariables false
set_option linter.unusedSimpArgs false
namespace Go.Proofs.Ythhknonaebnooaa
open Go.RowKit

theorem own_agree {w W : World} {base n size : Nat} {e : TypeId} {v : Value} {xs : List Value} (h : w.ownsRow base e size v n xs) (hb : ∀ b, some b = v.ownBlock → W.heap[b]? = w.heap[b]?) : W.ownsRow base e size v n xs := by
  refine ⟨h.1, ?_⟩
  rcases h.2 with h0 | ⟨g, cap, cur, hv, h1, hh, h3⟩
  · exact .inl h0
  · refine .inr ⟨g, cap, cur, hv, h1, ?_, h3⟩
    rw [hb g (by rw [hv]; rfl)]
    exact hh
theorem own_some {w : World} {base n size : Nat} {e : TypeId} {v : Value} {xs : List Value} (h : w.ownsRow base e size v n xs) {k : Nat} (hk : some k = v.ownBlock) : base ≤ k ∧ k < w.heap.size ∧ ∃ cs, w.heap[k]? = some (.cells cs e (0, 0)) := by
  rcases h.2 with ⟨rfl, _⟩ | ⟨g, cap, cur, rfl, h1, hh, h3⟩
  · cases hk
  · injection hk with hk
    subst hk
    exact ⟨h1, lt_of_block hh, _, hh⟩
/-- The event, the places, and the rows of good and bad names. -/
structure Ev (w wr : World) (eb pb : Nat) (pl : List Int) (AG AB : Option Addr) (cG cB : Nat) (Gd Bd : List Int) : Prop where
  ev : wr.heap[eb]? = some (.cells #[.slice AG Gd.length cG, .slice AB Bd.length cB] 31 (0, 0))
  pls : wr.heap[pb]? = some (.cells (pl.map (.int .i64)).toArray 3 (0, 0))
  og : wr.ownsRow w.heap.size 3 1 (.slice AG Gd.length cG) Gd.length (Gd.map (.int .i64))
  ob : wr.ownsRow w.heap.size 3 1 (.slice AB Bd.length cB) Bd.length (Bd.map (.int .i64))
  gp : (Value.slice AG Gd.length cG).ownBlock ≠ some pb
  bp : (Value.slice AB Bd.length cB).ownBlock ≠ some pb
  gb : ∀ k, some k = (Value.slice AG Gd.length cG).ownBlock → some k ≠ (Value.slice AB Bd.length cB).ownBlock
  elo : w.heap.size ≤ eb
  plo : w.heap.size ≤ pb
/-- The blocks that it speaks of. -/
def EvD (eb pb : Nat) (AG AB : Option Addr) (k : Nat) : Prop := k = eb ∨ k = pb ∨ some k = (Value.slice AG 0 0).ownBlock ∨ some k = (Value.slice AB 0 0).ownBlock
theorem ownB (A : Option Addr) (n c n' c' : Nat) : (Value.slice A n c).ownBlock = (Value.slice A n' c').ownBlock := by cases A <;> rfl
section
variable {w wr wr' : World} {eb pb : Nat} {pl : List Int} {AG AB : Option Addr} {cG cB : Nat} {Gd Bd : List Int}
theorem Ev.next (h : Ev w wr eb pb pl AG AB cG cB Gd Bd) (hb : ∀ k, EvD eb pb AG AB k → wr'.heap[k]? = wr.heap[k]?) : Ev w wr' eb pb pl AG AB cG cB Gd Bd :=
  ⟨(hb _ (.inl rfl)).trans h.ev, (hb _ (.inr (.inl rfl))).trans h.pls, own_agree h.og (fun k hk => hb k (.inr (.inr (.inl (by rw [hk]; exact ownB _ _ _ _ _))))), own_agree h.ob (fun k hk => hb k (.inr (.inr (.inr (by rw [hk]; exact ownB _ _ _ _ _))))), h.gp, h.bp, h.gb, h.elo, h.plo⟩
theorem Ev.dlt (h : Ev w wr eb pb pl AG AB cG cB Gd Bd) {k : Nat} (hk : EvD eb pb AG AB k) : k < wr.heap.size ∧ w.heap.size ≤ k ∧ ∃ cs T, wr.heap[k]? = some (.cells cs T (0, 0)) ∧ (T = 31 ∨ T = 3) := by
  rcases hk with rfl | rfl | hk | hk
  · exact ⟨lt_of_block h.ev, h.elo, _, _, h.ev, .inl rfl⟩
  · exact ⟨lt_of_block h.pls, h.plo, _, _, h.pls, .inr rfl⟩
  · obtain ⟨h1, h2, cs, h3⟩ := own_some h.og (k := k) (by rw [hk]; exact ownB _ _ _ _ _)
    exact ⟨h2, h1, cs, _, h3, .inr rfl⟩
  · obtain ⟨h1, h2, cs, h3⟩ := own_some h.ob (k := k) (by rw [hk]; exact ownB _ _ _ _ _)
    exact ⟨h2, h1, cs, _, h3, .inr rfl⟩
theorem Ev.cells (h : Ev w wr eb pb pl AG AB cG cB Gd Bd) : wr.cell? ⟨eb, 0, none⟩ = some (.slice AG Gd.length cG) ∧ wr.cell? ⟨eb, 1, none⟩ = some (.slice AB Bd.length cB) ∧ wr.frozen? ⟨eb, 0, none⟩ = false ∧ wr.frozen? ⟨eb, 1, none⟩ = false :=
  ⟨block_cell h.ev rfl, block_cell h.ev rfl, block_free h.ev, block_free h.ev⟩
theorem Ev.place (h : Ev w wr eb pb pl AG AB cG cB Gd Bd) {i : Nat} (hi : i < pl.length) : wr.cell? ⟨pb, i, none⟩ = some (.int .i64 (pl.getD i 0)) ∧ wr.frozen? ⟨pb, i, none⟩ = false :=
  ⟨block_cell h.pls (by simp [List.getD, hi]), block_free h.pls⟩
theorem Ev.eb_ne (h : Ev w wr eb pb pl AG AB cG cB Gd Bd) : eb ≠ pb ∧ some eb ≠ (Value.slice AG Gd.length cG).ownBlock ∧ some eb ≠ (Value.slice AB Bd.length cB).ownBlock := by
  refine ⟨fun e => ?_, fun e => ?_, fun e => ?_⟩
  · have h1 := h.ev
    rw [e, h.pls] at h1
    injection h1 with h1
    injection h1 with _ h1
    exact absurd h1 (by decide)
  · obtain ⟨_, _, cs, h3⟩ := own_some h.og e
    rw [h.ev] at h3
    injection h3 with h3
    injection h3 with _ h3
    exact absurd h3 (by decide)
  · obtain ⟨_, _, cs, h3⟩ := own_some h.ob e
    rw [h.ev] at h3
    injection h3 with h3
    injection h3 with _ h3
    exact absurd h3 (by decide)
/-- A bad name more. -/
theorem Ev.addBad (h : Ev w wr eb pb pl AG AB cG cB Gd Bd) {w1 w5 : World} (hb : Below wr.heap.size wr w1) {A5 : Option Addr} {c5 : Nat} {z : Int} (hg : w1.grownBy w5 (Value.slice AB Bd.length cB).ownBlock)
    (ho : w5.ownsRow w.heap.size 3 1 (.slice A5 (Bd.length + 1) c5) (Bd.length + 1) (Bd.map (.int .i64) ++ [.int .i64 z])) (hat : (Value.slice A5 (Bd.length + 1) c5).ownBlock = (Value.slice AB Bd.length cB).ownBlock ∨ (Value.slice A5 (Bd.length + 1) c5).ownBlock = some w1.heap.size) :
    Ev w (w5.setCell ⟨eb, 1, none⟩ (.slice A5 (Bd.length + 1) c5)) eb pb pl AG A5 cG c5 Gd (Bd ++ [z]) ∧ Chg (fun k => EvD eb pb AG AB k) wr (w5.setCell ⟨eb, 1, none⟩ (.slice A5 (Bd.length + 1) c5)) ∧ (∀ k, EvD eb pb AG A5 k → EvD eb pb AG AB k ∨ wr.heap.size ≤ k) := by
  obtain ⟨n1, n2, n3⟩ := h.eb_ne
  have hs := hb.size
  have hel := lt_of_block h.ev
  have hpl := lt_of_block h.pls
  have hlen : (Bd ++ [z]).length = Bd.length + 1 := by simp
  have h5 : ∀ k, k < wr.heap.size → some k ≠ (Value.slice AB Bd.length cB).ownBlock → w5.heap[k]? = wr.heap[k]? := fun k hk hne => (hg.block k (by omega) hne).trans (hb.block k hk)
  have he5 := (h5 eb hel n3).trans h.ev
  have hold : ∀ k, some k = (Value.slice A5 (Bd.length + 1) c5).ownBlock → some k = (Value.slice AB Bd.length cB).ownBlock ∨ wr.heap.size ≤ k := fun k hk => by
    rcases hat with e | e
    · rw [e] at hk; exact .inl hk
    · rw [e] at hk; right; have := Option.some.inj hk; omega
  refine ⟨⟨?_, ?_, ?_, ?_, h.gp, fun e => ?_, fun k hk e => ?_, h.elo, h.plo⟩, ?_, fun k hk => ?_⟩
  · rw [set_block he5, hlen]; rfl
  · exact (Below.heap_setCell _ _ _ _ (fun e => n1 e.symm)).trans ((h5 pb hpl (fun e => h.bp e.symm)).trans h.pls)
  · refine own_agree h.og fun k hk => ?_
    have hk2 := own_some h.og hk
    exact (Below.heap_setCell _ _ _ _ (fun e => n2 (by rw [← hk, e]))).trans (h5 k hk2.2.1 (h.gb k hk))
  · rw [hlen, List.map_append]
    refine own_agree ho fun k hk => Below.heap_setCell _ _ _ _ (fun e => ?_)
    have e' : k = eb := e
    rcases hold k hk with h1 | h1
    · exact n3 (by rw [← e']; exact h1)
    · omega
  · rw [hlen] at e
    rcases hold pb e.symm with h1 | h1
    · exact h.bp h1.symm
    · omega
  · rw [hlen] at e
    rcases hold k e with h1 | h1
    · exact h.gb k hk h1
    · have := (own_some h.og hk).2.1; omega
  · refine ((Chg.of_new (V := fun k => EvD eb pb AG AB k) hb).grown hg (fun k hk _ => .inr (.inr (.inr (by rw [← hk]; exact ownB _ _ _ _ _))))).set _ _ (fun _ => .inl rfl)
  · rcases hk with hk | hk | hk | hk
    · exact .inl (.inl hk)
    · exact .inl (.inr (.inl hk))
    · exact .inl (.inr (.inr (.inl hk)))
    · rcases hold k (by rw [hk]; exact ownB _ _ _ _ _) with h1 | h1
      · exact .inl (.inr (.inr (.inr (by rw [h1]; exact ownB _ _ _ _ _))))
      · exact .inr h1
/-- A good name more. -/
theorem Ev.addGood (h : Ev w wr eb pb pl AG AB cG cB Gd Bd) {w1 w5 : World} (hb : Below wr.heap.size wr w1) {A5 : Option Addr} {c5 : Nat} {z : Int} (hg : w1.grownBy w5 (Value.slice AG Gd.length cG).ownBlock)
    (ho : w5.ownsRow w.heap.size 3 1 (.slice A5 (Gd.length + 1) c5) (Gd.length + 1) (Gd.map (.int .i64) ++ [.int .i64 z])) (hat : (Value.slice A5 (Gd.length + 1) c5).ownBlock = (Value.slice AG Gd.length cG).ownBlock ∨ (Value.slice A5 (Gd.length + 1) c5).ownBlock = some w1.heap.size) :
    Ev w (w5.setCell ⟨eb, 0, none⟩ (.slice A5 (Gd.length + 1) c5)) eb pb pl A5 AB c5 cB (Gd ++ [z]) Bd ∧ Chg (fun k => EvD eb pb AG AB k) wr (w5.setCell ⟨eb, 0, none⟩ (.slice A5 (Gd.length + 1) c5)) ∧ (∀ k, EvD eb pb A5 AB k → EvD eb pb AG AB k ∨ wr.heap.size ≤ k) := by
  obtain ⟨n1, n2, n3⟩ := h.eb_ne
  have hs := hb.size
  have hel := lt_of_block h.ev
  have hpl := lt_of_block h.pls
  have hlen : (Gd ++ [z]).length = Gd.length + 1 := by simp
  have h5 : ∀ k, k < wr.heap.size → some k ≠ (Value.slice AG Gd.length cG).ownBlock → w5.heap[k]? = wr.heap[k]? := fun k hk hne => (hg.block k (by omega) hne).trans (hb.block k hk)
  have he5 := (h5 eb hel n2).trans h.ev
  have hold : ∀ k, some k = (Value.slice A5 (Gd.length + 1) c5).ownBlock → some k = (Value.slice AG Gd.length cG).ownBlock ∨ wr.heap.size ≤ k := fun k hk => by
    rcases hat with e | e
    · rw [e] at hk; exact .inl hk
    · rw [e] at hk; right; have := Option.some.inj hk; omega
  refine ⟨⟨?_, ?_, ?_, ?_, fun e => ?_, h.bp, fun k hk e => ?_, h.elo, h.plo⟩, ?_, fun k hk => ?_⟩
  · rw [set_block he5, hlen]; rfl
  · exact (Below.heap_setCell _ _ _ _ (fun e => n1 e.symm)).trans ((h5 pb hpl (fun e => h.gp e.symm)).trans h.pls)
  · rw [hlen, List.map_append]
    refine own_agree ho fun k hk => Below.heap_setCell _ _ _ _ (fun e => ?_)
    have e' : k = eb := e
    rcases hold k hk with h1 | h1
    · exact n2 (by rw [← e']; exact h1)
    · omega
  · refine own_agree h.ob fun k hk => ?_
    have hk2 := own_some h.ob hk
    exact (Below.heap_setCell _ _ _ _ (fun e => n3 (by rw [← hk, e]))).trans (h5 k hk2.2.1 (fun e => h.gb k e hk))
  · rw [hlen] at e
    rcases hold pb e.symm with h1 | h1
    · exact h.gp h1.symm
    · omega
  · rw [hlen] at hk
    rcases hold k hk with h1 | h1
    · exact h.gb k h1 e
    · have := (own_some h.ob e).2.1; omega
  · refine ((Chg.of_new (V := fun k => EvD eb pb AG AB k) hb).grown hg (fun k hk _ => .inr (.inr (.inl (by rw [← hk]; exact ownB _ _ _ _ _))))).set _ _ (fun _ => .inl rfl)
  · rcases hk with hk | hk | hk | hk
    · exact .inl (.inl hk)
    · exact .inl (.inr (.inl hk))
    · rcases hold k (by rw [hk]; exact ownB _ _ _ _ _) with h1 | h1
      · exact .inl (.inr (.inr (.inl (by rw [h1]; exact ownB _ _ _ _ _))))
      · exact .inr h1
    · exact .inl (.inr (.inr (.inr hk)))
/-- A place. -/
theorem Ev.put (h : Ev w wr eb pb pl AG AB cG cB Gd Bd) (i : Nat) (z : Int) : Ev w (wr.setCell ⟨pb, i, none⟩ (.int .i64 z)) eb pb (pl.set i z) AG AB cG cB Gd Bd := by
  obtain ⟨n1, n2, n3⟩ := h.eb_ne
  refine ⟨(Below.heap_setCell _ _ _ _ n1).trans h.ev, ?_, own_agree h.og fun k hk => Below.heap_setCell _ _ _ _ (fun e => h.gp (by rw [← hk, e])), own_agree h.ob fun k hk => Below.heap_setCell _ _ _ _ (fun e => h.bp (by rw [← hk, e])), h.gp, h.bp, h.gb, h.elo, h.plo⟩
  rw [set_block h.pls, List.map_set]
  simp
end
/-- The nodes of the tree after the letter; what their sets lie in: D. -/
structure Af (w wr : World) (D : Dom) (sl : List (Option Addr × Nat)) (A : Option Addr) (c : Nat) (T : List Nd) : Prop where
  len : sl.length = T.length
  own : wr.ownsRow w.heap.size 43 3 (.slice A T.length c) T.length ((T.zip sl).flatMap fun p => ncells p.1 p.2)
  rd : ∀ i, i < T.length → RdI wr D (sl.getD i (none, 0)).1 (sl.getD i (none, 0)).2 (T.getD i default).set
section
variable {w wr wr' : World} {D : Dom} {sl : List (Option Addr × Nat)} {A : Option Addr} {c : Nat} {T : List Nd}
theorem Af.next (h : Af w wr D sl A c T) (hs : wr.heap.size ≤ wr'.heap.size) (hb : ∀ k, (some k = (Value.slice A 0 0).ownBlock ∨ D k) → k < wr.heap.size → wr'.heap[k]? = wr.heap[k]?) : Af w wr' D sl A c T :=
  ⟨h.len, own_agree h.own fun k hk => hb k (.inl (by rw [hk]; exact ownB _ _ _ _ _)) (own_some h.own hk).2.1, fun i hi => (h.rd i hi).keep ⟨hs, fun k hk hl => hb k (.inr hk) hl⟩⟩
theorem Af.nodes (h : Af w wr D sl A c T) (hn : T.length ≤ 140737488355328) (hD : ∀ k, D k → w.heap.size ≤ k) : RdN wr (fun k => w.heap.size ≤ k) A c T :=
  ⟨sl, h.len, Rd.own h.own hn (fun _ h => h), fun i hi => (h.rd i hi).mono fun k hk _ => hD k hk⟩
theorem zip_snoc (T : List Nd) (sl : List (Option Addr × Nat)) (x : Nd) (p : Option Addr × Nat) (h : sl.length = T.length) : (T ++ [x]).zip (sl ++ [p]) = T.zip sl ++ [(x, p)] := by
  rw [List.zip_append h.symm]; rfl
theorem Af.snoc (h : Af w wr D sl A c T) {w5 : World} {A5 A2 : Option Addr} {c5 c2 : Nat} {x : Nd} (hs : wr.heap.size ≤ w5.heap.size) (hk : ∀ k, D k → k < wr.heap.size → w5.heap[k]? = wr.heap[k]?) {E : Dom} (hx : RdI w5 E A2 c2 x.set)
    (ho : w5.ownsRow w.heap.size 43 3 (.slice A5 (T.length + 1) c5) (T.length + 1) (((T.zip sl).flatMap fun p => ncells p.1 p.2) ++ ncells x (A2, c2))) : Af w w5 (fun k => D k ∨ E k) (sl ++ [(A2, c2)]) A5 c5 (T ++ [x]) := by
  have hl : (T ++ [x]).length = T.length + 1 := by simp
  refine ⟨by rw [List.length_append, h.len, hl]; rfl, ?_, fun i hi => ?_⟩
  · rw [hl, zip_snoc T sl x _ h.len, List.flatMap_append]
    simpa using ho
  · rw [hl] at hi
    rw [getD_snoc sl _ _ i (by rw [h.len]; exact hi), getD_snoc T _ _ i hi, h.len]
    split
    · exact hx.mono fun k hk _ => .inr hk
    · exact ((h.rd i (by omega)).keep ⟨hs, fun k hk' hl => hk k hk' hl⟩).mono fun k hk _ => .inl hk
end
/-- While the tree is laid. -/
structure StI (w wr : World) (g : Nat) (R : List PR) (eb pb : Nat) (pl : List Int) (AG AB : Option Addr) (cG cB : Nat) (Gd Bd : List Int) (D : Dom) (sl : List (Option Addr × Nat)) (A : Option Addr) (c : Nat) (T : List Nd) : Prop where
  below : Below w.heap.size w wr
  lst : PB wr g R
  glo : w.heap.size ≤ g
  sets : PSets wr w.heap.size R
  ev : Ev w wr eb pb pl AG AB cG cB Gd Bd
  af : Af w wr D sl A c T
  dlt : ∀ k, D k → k < wr.heap.size
  dlo : ∀ k, D k → w.heap.size + 1 < k
  dev : ∀ k, D k → ¬ EvD eb pb AG AB k
  daf : ∀ k, D k → some k ≠ (Value.slice A 0 0).ownBlock
  res : wr.heap[w.heap.size + 1]? = some (.cells #[.slice none 0 0, .slice none 0 0] 31 (0, 0))
  rlt : w.heap.size + 1 < eb
section
variable {w wr wr' : World} {g eb pb : Nat} {R : List PR} {pl : List Int} {AG AB : Option Addr} {cG cB : Nat} {Gd Bd : List Int} {D : Dom} {sl : List (Option Addr × Nat)} {A : Option Addr} {c : Nat} {T : List Nd}
/-- The blocks that it speaks of. -/
def StD (rb g : Nat) (R : List PR) (eb pb : Nat) (AG AB : Option Addr) (D : Dom) (A : Option Addr) (k : Nat) : Prop := k = g ∨ (∃ j, j < R.length ∧ k = (R.getD j default).mb) ∨ EvD eb pb AG AB k ∨ some k = (Value.slice A 0 0).ownBlock ∨ D k ∨ k = rb
theorem StI.sdlt (h : StI w wr g R eb pb pl AG AB cG cB Gd Bd D sl A c T) {k : Nat} (hk : StD (w.heap.size + 1) g R eb pb AG AB D A k) : k < wr.heap.size := by
  rcases hk with rfl | ⟨j, hj, rfl⟩ | hk | hk | hk | rfl
  · exact h.lst.lt
  · exact h.sets.lt hj
  · exact (h.ev.dlt hk).1
  · exact (own_some h.af.own (k := k) (by rw [hk]; exact ownB _ _ _ _ _)).2.1
  · exact h.dlt k hk
  · exact lt_of_block h.res
theorem StI.next (h : StI w wr g R eb pb pl AG AB cG cB Gd Bd D sl A c T) (hb : Below w.heap.size w wr') (hs : wr.heap.size ≤ wr'.heap.size) (hk : ∀ k, StD (w.heap.size + 1) g R eb pb AG AB D A k → wr'.heap[k]? = wr.heap[k]?) : StI w wr' g R eb pb pl AG AB cG cB Gd Bd D sl A c T :=
  ⟨hb, h.lst.of_block (hk g (.inl rfl)), h.glo, h.sets.keep (fun j hj => hk _ (.inr (.inl ⟨j, hj, rfl⟩))), h.ev.next (fun k hd => hk k (.inr (.inr (.inl hd)))), h.af.next hs (fun k hd _ => hk k (.inr (.inr (.inr (hd.elim .inl fun h => .inr (.inl h)))))), fun k hd => Nat.lt_of_lt_of_le (h.dlt k hd) hs, h.dlo, h.dev, h.daf, (hk _ (.inr (.inr (.inr (.inr (.inr rfl)))))).trans h.res, h.rlt⟩
theorem StI.fresh (h : StI w wr g R eb pb pl AG AB cG cB Gd Bd D sl A c T) (hb : Below wr.heap.size wr wr') : StI w wr' g R eb pb pl AG AB cG cB Gd Bd D sl A c T :=
  h.next (h.below.trans (hb.mono h.below.size)) hb.size fun k hd => hb.block k (h.sdlt hd)
/-- A block of cells of another type than those of nodes of the program. -/
theorem PB.ne_type (h : PB wr g R) {k : Nat} {cs : Array Value} {T : TypeId} (hk : wr.heap[k]? = some (.cells cs T (0, 0))) (ht : T ≠ 67) : k ≠ g := by
  obtain ⟨cur, h1, _⟩ := h
  intro e
  rw [e, h1] at hk
  injection hk with hk
  injection hk with _ hk
  exact ht hk.symm
theorem SetIs.ne_cells {mb : Nat} {S : List Int} (h : SetIs wr mb S) {k : Nat} {cs : Array Value} {T : TypeId} {fr : Nat × Nat} (hk : wr.heap[k]? = some (.cells cs T fr)) : k ≠ mb := by
  obtain ⟨es, cl, h1⟩ := h.block
  intro e
  rw [e, h1] at hk; cases hk
/-- Only the event's blocks have changed. -/
theorem StI.evchg (h : StI w wr g R eb pb pl AG AB cG cB Gd Bd D sl A c T) {pl' : List Int} {AG' AB' : Option Addr} {cG' cB' : Nat} {Gd' Bd' : List Int} (he : Ev w wr' eb pb pl' AG' AB' cG' cB' Gd' Bd') (hc : Chg (fun k => EvD eb pb AG AB k) wr wr')
    (hd : ∀ k, EvD eb pb AG' AB' k → EvD eb pb AG AB k ∨ wr.heap.size ≤ k) : StI w wr' g R eb pb pl' AG' AB' cG' cB' Gd' Bd' D sl A c T := by
  have hb : Below w.heap.size w wr' := h.below.trans (hc.below (fun b hb hv => by have := (h.ev.dlt hv).2.1; omega) h.below.size)
  refine ⟨hb, h.lst.of_block (hc.block g h.lst.lt fun hv => ?_), h.glo, h.sets.keep (fun j hj => hc.block _ (h.sets.lt hj) fun hv => ?_), he, h.af.next hc.size (fun k hk hl => hc.block k hl fun hv => ?_), fun k hk => Nat.lt_of_lt_of_le (h.dlt k hk) hc.size, h.dlo, fun k hk hv => ?_, h.daf, (hc.block _ (lt_of_block h.res) fun hv => ?_).trans h.res, h.rlt⟩
  · obtain ⟨_, _, cs, T', h3, h4⟩ := h.ev.dlt hv
    exact h.lst.ne_type h3 (by rcases h4 with rfl | rfl <;> decide) rfl
  · obtain ⟨_, _, cs, T', h3, h4⟩ := h.ev.dlt hv
    exact (h.sets.set j hj).ne_cells h3 rfl
  · obtain ⟨_, _, cs, T', h3, h4⟩ := h.ev.dlt hv
    rcases hk with hk | hk
    · obtain ⟨_, _, cs', h5⟩ := own_some h.af.own (k := k) (by rw [hk]; exact ownB _ _ _ _ _)
      rw [h3] at h5
      injection h5 with h5
      injection h5 with _ h5
      rcases h4 with rfl | rfl <;> exact absurd h5 (by decide)
    · exact h.dev k hk hv
  · rcases hd k hv with h1 | h1
    · exact h.dev k hk h1
    · have := h.dlt k hk; omega
  · have hty : ∀ {cs : Array Value}, wr.heap[w.heap.size + 1]? = some (.cells cs 3 (0, 0)) → False := fun h9 => by
      rw [h.res] at h9
      injection h9 with h9
      injection h9 with _ h9
      exact absurd h9 (by decide)
    rcases hv with e | e | e | e
    · have := h.rlt; omega
    · exact hty (by rw [e]; exact h.ev.pls)
    · obtain ⟨_, _, cs, h9⟩ := own_some h.ev.og (k := w.heap.size + 1) (by rw [e]; exact ownB _ _ _ _ _)
      exact hty h9
    · obtain ⟨_, _, cs, h9⟩ := own_some h.ev.ob (k := w.heap.size + 1) (by rw [e]; exact ownB _ _ _ _ _)
      exact hty h9
/-- A place. -/
theorem StI.put (h : StI w wr g R eb pb pl AG AB cG cB Gd Bd D sl A c T) (i : Nat) (z : Int) : StI w (wr.setCell ⟨pb, i, none⟩ (.int .i64 z)) g R eb pb (pl.set i z) AG AB cG cB Gd Bd D sl A c T :=
  h.evchg (h.ev.put i z) ((Chg.refl _ wr).set _ _ (fun _ => .inr (.inl rfl))) fun k hk => .inl hk
/-- A node more, whose set lies in blocks of E. -/
theorem StI.snoc (h : StI w wr g R eb pb pl AG AB cG cB Gd Bd D sl A c T) {w1 w5 : World} {A5 A2 : Option Addr} {c5 c2 : Nat} {x : Nd} {E : Dom} (hbw : Below w.heap.size w w1) (hs : wr.heap.size ≤ w1.heap.size) (hkeep : ∀ k, StD (w.heap.size + 1) g R eb pb AG AB D A k → w1.heap[k]? = wr.heap[k]?)
    (hx : RdI w1 E A2 c2 x.set) (hE : ∀ k, E k → wr.heap.size ≤ k ∧ k < w1.heap.size) (o : Obj)
    (hg : (w1.alloc o).grownBy w5 (Value.slice A T.length c).ownBlock)
    (ho : w5.ownsRow w.heap.size 43 3 (.slice A5 (T.length + 1) c5) (T.length + 1) (((T.zip sl).flatMap fun p => ncells p.1 p.2) ++ ncells x (A2, c2)))
    (hat : (Value.slice A5 (T.length + 1) c5).ownBlock = (Value.slice A T.length c).ownBlock ∨ (Value.slice A5 (T.length + 1) c5).ownBlock = some (w1.alloc o).heap.size) :
    StI w w5 g R eb pb pl AG AB cG cB Gd Bd (fun k => D k ∨ E k) (sl ++ [(A2, c2)]) A5 c5 (T ++ [x]) := by
  have hws := h.below.size
  have hsa : (w1.alloc o).heap.size = w1.heap.size + 1 := by simp
  have hgs := hg.size
  have hblk : ∀ k, k < w1.heap.size → some k ≠ (Value.slice A T.length c).ownBlock → w5.heap[k]? = w1.heap[k]? := fun k hk hne => (hg.block k (by omega) hne).trans (Below.heap_alloc _ _ _ hk)
  have hold : ∀ k, StD (w.heap.size + 1) g R eb pb AG AB D A k → some k ≠ (Value.slice A T.length c).ownBlock → w5.heap[k]? = wr.heap[k]? := fun k hk hne => (hblk k (Nat.lt_of_lt_of_le (h.sdlt hk) hs) hne).trans (hkeep k hk)
  have haf : ∀ k, some k = (Value.slice A T.length c).ownBlock → ∃ cs, wr.heap[k]? = some (.cells cs 43 (0, 0)) := fun k hk => (own_some h.af.own hk).2.2
  have hal : ∀ k, some k = (Value.slice A T.length c).ownBlock → w.heap.size ≤ k ∧ k < wr.heap.size := fun k hk => ⟨(own_some h.af.own hk).1, (own_some h.af.own hk).2.1⟩
  have hnew : ∀ k, some k = (Value.slice A5 (T.length + 1) c5).ownBlock → some k = (Value.slice A T.length c).ownBlock ∨ w1.heap.size < k := fun k hk => by
    rcases hat with e | e
    · rw [e] at hk; exact .inl hk
    · rw [e] at hk; right; have := Option.some.inj hk; omega
  have hb5 : Below w.heap.size w w5 := by
    have h1 : Below w.heap.size w (w1.alloc o) := hbw.trans ((Below.refl _ _).alloc (by omega) o)
    exact h1.grown hg (by omega) (fun k hk => (hal k hk.symm).1)
  refine ⟨hb5, h.lst.of_block (hold g (.inl rfl) fun e => ?_), h.glo, h.sets.keep (fun j hj => hold _ (.inr (.inl ⟨j, hj, rfl⟩)) fun e => ?_), h.ev.next (fun k hk => hold k (.inr (.inr (.inl hk))) fun e => ?_), h.af.snoc (by omega) (fun k hk hl => hold k (.inr (.inr (.inr (.inr (.inl hk))))) fun e => ?_) (E := E) ?_ ho, fun k hk => ?_, fun k hk => ?_, fun k hk hv => ?_, fun k hk e => ?_, (hold _ (.inr (.inr (.inr (.inr (.inr rfl))))) fun e => ?_).trans h.res, h.rlt⟩
  · obtain ⟨cs, h3⟩ := haf g e
    exact h.lst.ne_type h3 (by decide) rfl
  · obtain ⟨cs, h3⟩ := haf _ e
    exact (h.sets.set j hj).ne_cells h3 rfl
  · obtain ⟨_, _, cs, T', h3, h4⟩ := h.ev.dlt hk
    obtain ⟨cs', h5⟩ := haf k e
    rw [h3] at h5
    injection h5 with h5
    injection h5 with _ h5
    rcases h4 with rfl | rfl <;> exact absurd h5 (by decide)
  · exact h.daf k hk (by rw [e]; exact ownB _ _ _ _ _)
  · refine hx.keep ⟨by omega, fun k hk hl => hblk k hl fun e => ?_⟩
    have := (hE k hk).1
    have := (hal k e).2
    omega
  · rcases hk with hk | hk
    · have := h.dlt k hk; omega
    · have := (hE k hk).2; omega
  · rcases hk with hk | hk
    · exact h.dlo k hk
    · have := (hE k hk).1; have := lt_of_block h.res; omega
  · rcases hk with hk | hk
    · exact h.dev k hk hv
    · have := (hE k hk).1; have := (h.ev.dlt hv).1; omega
  · have e' : some k = (Value.slice A5 (T.length + 1) c5).ownBlock := by rw [e]; exact ownB _ _ _ _ _
    rcases hnew k e' with h1 | h1
    · rcases hk with hk | hk
      · exact h.daf k hk (by rw [h1]; exact ownB _ _ _ _ _)
      · have := (hE k hk).1; have := (hal k h1).2; omega
    · rcases hk with hk | hk
      · have := h.dlt k hk; omega
      · have := (hE k hk).2; omega
  · obtain ⟨cs, h3⟩ := haf _ e
    rw [h.res] at h3
    injection h3 with h3
    injection h3 with _ h3
    exact absurd h3 (by decide)
end
theorem StI.nodes {w wr wr' : World} {g eb pb : Nat} {R : List PR} {pl : List Int} {AG AB : Option Addr} {cG cB : Nat} {Gd Bd : List Int} {D : Dom} {sl : List (Option Addr × Nat)} {A : Option Addr} {c : Nat} {T : List Nd} (h : StI w wr g R eb pb pl AG AB cG cB Gd Bd D sl A c T) (hs : wr.heap.size ≤ wr'.heap.size)
    (hc : ∀ k, k < wr.heap.size → ¬ EvD eb pb AG AB k → k ≠ w.heap.size + 1 → wr'.heap[k]? = wr.heap[k]?) (hT : T.length ≤ 140737488355328) : RdN wr' (fun k => w.heap.size ≤ k) A c T := by
  refine (h.af.next (wr' := wr') hs fun k hk hl => ?_).nodes hT fun k hk => by have := h.dlo k hk; omega
  rcases hk with hk | hk
  · obtain ⟨_, _, cs', h5⟩ := own_some h.af.own (k := k) (by rw [hk]; exact ownB _ _ _ _ _)
    refine hc k hl (fun hv => ?_) (fun e => ?_)
    · obtain ⟨_, _, cs, T', h3, h4⟩ := h.ev.dlt hv
      rw [h3] at h5
      injection h5 with h5
      injection h5 with _ h5
      rcases h4 with rfl | rfl <;> exact absurd h5 (by decide)
    · rw [e, h.res] at h5
      injection h5 with h5
      injection h5 with _ h5
      exact absurd h5 (by decide)
  · exact hc k hl (h.dev k hk) (fun e => by have := h.dlo k hk; omega)
/-! Plain: what the rows' sets are. -/
theorem nmP_same (used : List Int) (R : List PR) : ∀ (k j : Nat), (((nmP used R k).1.getD j default).mb = (R.getD j default).mb ∧ ((nmP used R k).1.getD j default).nd.set = (R.getD j default).nd.set ∧ ((nmP used R k).1.getD j default).nd.parent = (R.getD j default).nd.parent ∧ ((nmP used R k).1.getD j default).old = (R.getD j default).old ∧ ((nmP used R k).1.getD j default).good = (R.getD j default).good ∧ ((nmP used R k).1.getD j default).gone = (R.getD j default).gone)
  | 0, _ => ⟨rfl, rfl, rfl, rfl, rfl, rfl⟩
  | k + 1, j => by
    have ih := nmP_same used R k j
    unfold nmP
    split
    · exact ih
    · by_cases e : k = j
      · subst e
        by_cases hl : k < (nmP used R k).1.length
        · have : ((nmP used R k).1.set k { R.getD k default with nd := { (R.getD k default).nd with name := freeN used used.length (nmP used R k).2 } }).getD k default = { R.getD k default with nd := { (R.getD k default).nd with name := freeN used used.length (nmP used R k).2 } } := by simp [List.getD, hl]
          rw [this]; exact ⟨rfl, rfl, rfl, rfl, rfl, rfl⟩
        · rw [List.set_eq_of_length_le (by omega)]; exact ih
      · have : ((nmP used R k).1.set k { R.getD k default with nd := { (R.getD k default).nd with name := freeN used used.length (nmP used R k).2 } }).getD j default = (nmP used R k).1.getD j default := by simp [List.getD, e]
        rw [this]; exact ih
theorem nd_setAt (L : List Nd) (k : Nat) (s : List Int) (i : Nat) (hk : k < L.length) : nd (setAt L k s) i = if k = i then { nd L k with set := s } else nd L i := by
  unfold setAt nd
  by_cases e : k = i
  · subst e; simp [List.getD, hk]
  · simp [List.getD, e]
theorem setAt_len (L : List Nd) (k : Nat) (s : List Int) : (setAt L k s).length = L.length := by unfold setAt; rw [List.length_set]
theorem trimTo_len (L : List Nd) : ∀ k, (trimTo L k).length = L.length
  | 0 => rfl
  | k + 1 => by unfold trimTo; rw [setAt_len, trimTo_len L k]
theorem trimTo_sub (L : List Nd) : ∀ k, k ≤ L.length → ∀ i, (nd (trimTo L k) i).set.Sublist (nd L i).set ∧ (nd (trimTo L k) i).parent = (nd L i).parent ∧ (nd (trimTo L k) i).name = (nd L i).name
  | 0, _, i => ⟨List.Sublist.refl _, rfl, rfl⟩
  | k + 1, hk, i => by
    have ih := trimTo_sub L k (by omega) i
    unfold trimTo
    rw [nd_setAt _ _ _ _ (by rw [trimTo_len]; omega)]
    split
    · rename_i e
      subst e
      exact ⟨List.Sublist.trans (by unfold trimmedZ; exact List.filter_sublist) ih.1, ih.2⟩
    · exact ih
theorem reach_inc (b : Bu) (set : List Int) (a : Int) (well : Bool) : (reachZ b set a well).Pairwise (· < ·) := by
  unfold reachZ
  refine List.Pairwise.filter _ ?_
  rw [List.pairwise_map]
  exact List.pairwise_lt_range.imp fun h => by omega
theorem reach_rng (b : Bu) (set : List Int) (a : Int) (well : Bool) : ∀ z ∈ reachZ b set a well, 0 ≤ z ∧ z < (b.next.length : Int) := fun z hz => by
  unfold reachZ at hz
  obtain ⟨i, hi, rfl⟩ := List.mem_map.1 (List.mem_filter.1 hz).1
  have := List.mem_range.1 hi
  omega
theorem grown_len (b : Bu) (t : List Nd) (a : Int) : (grownZ b t a).length = 2 * t.length := by unfold grownZ; simp; omega
/-- The sets of the list that Step divides. -/
theorem trimmed_sets (b : Bu) (t : List Nd) (a : Int) {k : Nat} (hk : k ≤ 2 * t.length) {i : Nat} (hi : i < 2 * t.length) : (nd (trimTo (grownZ b t a) k) i).set.Pairwise (· < ·) ∧ ∀ z ∈ (nd (trimTo (grownZ b t a) k) i).set, 0 ≤ z ∧ z < (b.next.length : Int) := by
  have h1 := (trimTo_sub (grownZ b t a) k (by rw [grown_len]; exact hk) i).1
  have h2 : (nd (grownZ b t a) i).set.Pairwise (· < ·) ∧ ∀ z ∈ (nd (grownZ b t a) i).set, 0 ≤ z ∧ z < (b.next.length : Int) := by
    rw [grownP_get b t a hi]
    unfold grownP
    split
    · exact ⟨reach_inc _ _ _ _, reach_rng _ _ _ _⟩
    · exact ⟨reach_inc _ _ _ _, reach_rng _ _ _ _⟩
  exact ⟨h2.1.sublist h1, fun z hz => h2.2 z (h1.subset hz)⟩
end Go.Proofs.Ythhknonaebnooaa
set_option linter.unusedVariables false
set_option linter.unusedSimpArgs false
namespace Go.Proofs.Ythhknonaebnooaa
open Go.RowKit
attribute [local go_sem] cell_alloc_old

def stayP (R : List PR) (i : Nat) : Bool := !(R.getD i default).gone
def goodP (x : PR) : Bool := !x.gone && x.good
def badP (x : PR) : Bool := x.gone && x.old
def namesP (R : List PR) : List Int := R.map fun x => x.nd.name
/-- What Step hands back, when the rows are R. -/
structure OutP (R : List PR) (T : List Nd) (G B : List Int) : Prop where
  t : T = keepZ (ndsP R) (stayP R)
  g : G = (namesP (R.filter goodP)).mergeSort (fun x y => decide (x ≤ y))
  b : B = (namesP (R.filter badP)).mergeSort (fun x y => decide (x ≤ y))
/-- The rows as grown, divide, collapse and name leave them. -/
structure Rows4 (b : Bu) (t : List Nd) (a : Int) (R : List PR) : Prop where
  ex : ∃ R3 : List PR, R3.length = 2 * t.length ∧ ndsP R3 = trimTo (grownZ b t a) (2 * t.length) ∧ (∀ j, j < R3.length → (R3.getD j default).old = decide (j < t.length) ∧ (R3.getD j default).good = goodL (ndsP R3) j ∧ (R3.getD j default).gone = goneL (ndsP R3) j) ∧
    R = (nmP ((R3.filter (·.old)).map fun x => x.nd.name) R3 R3.length).1
/-- What Step returns. -/
def StepSays (b : Bu) (t : List Nd) (a : Int) (w : World) (e : Ending) (w' : World) : Prop :=
  ∃ (T : List Nd) (G B : List Int) (A1 AG AB : Option Addr) (c1 cG cB : Nat), e = .returned (.tuple #[.slice A1 T.length c1, .agg #[.slice AG G.length cG, .slice AB B.length cB]]) ∧ Below w.heap.size w w' ∧
    RdN w' (fun k => w.heap.size ≤ k) A1 c1 T ∧ RdI w' (fun k => w.heap.size ≤ k) AG cG G ∧ RdI w' (fun k => w.heap.size ≤ k) AB cB B ∧
    (if treeB b t = true ∧ 0 ≤ a ∧ a < b.letters then ∃ R, Rows4 b t a R ∧ OutP R T G B else T = [] ∧ G = [] ∧ B = [])
theorem tnode_info : (Try.prog.info? 43).map (fun i => (i.zero, i.size, i.bytes)) = some (some (.agg #[.int .i64 0, .int .i64 0, .slice none 0 0]), 3, 40) := by kernel_rfl
theorem build_ev (w : World) : (Instr.build 31 #[]).run Try.prog w = .ok (.agg #[.slice none 0 0, .slice none 0 0]) w := run_build w 31 _ _ (by kernel_rfl)

set_option maxRecDepth 100000 in
set_option maxHeartbeats 4000000 in
/-- Where there is no tree, or no such letter. -/
theorem step_no {D E : Dom} (v : Value) (b : Bu) (A : Option Addr) (c : Nat) (t : List Nd) (a : Int) (w : World) (h : RdBu w D v b) (ht : RdN w E A c t) (hno : ¬ (treeB b t = true ∧ 0 ≤ a ∧ a < b.letters)) :
    Calls Try.prog 12 #[v, .slice A t.length c, .int .i64 a] w (StepSays b t a w) := by
  have HV := hid h.old
  have HT := hid ht.old
  obtain ⟨As, cs, An, cn, rfl, ho, hn⟩ := h
  have hbe := build_ev
  have HNO := hid hno
  obtain ⟨W0, hW0⟩ : ∃ W0, W0 = w.alloc (.cells #[.int .i64 b.letters, .slice As b.start.length cs, .slice An b.next.length cn] 25) := ⟨_, rfl⟩
  have hbox0 : HasB W0 w.heap.size #[.int .i64 b.letters, .slice As b.start.length cs, .slice An b.next.length cn] b := by rw [hW0]; exact HasB.new HV.out
  obtain ⟨W, hW⟩ : ∃ W, W = W0.alloc (.cells #[.slice none 0 0, .slice none 0 0] 31) := ⟨_, rfl⟩
  have hb0 : Below W0.heap.size W0 W := by rw [hW]; go_grown
  have hbox := hbox0.below hb0
  have hb1 : Below w.heap.size w W0 := by rw [hW0]; go_grown
  have hz0 : W0.heap.size = w.heap.size + 1 := by rw [hW0]; simp
  have hb2 : Below w.heap.size w W := hb1.trans (hb0.mono (by omega))
  have hev : W.heap[w.heap.size + 1]? = some (.cells #[.slice none 0 0, .slice none 0 0] 31 (0, 0)) := by rw [hW, ← hz0]; exact heap_alloc_new W0 _
  have hcall := tvalid_any (.agg #[.int .i64 b.letters, .slice As b.start.length cs, .slice An b.next.length cn]) b A c t W hbox.rd (HT.out.keep (Keeps.of_below hb2 fun _ h => h))
  rw [hW, hW0] at hcall
  obtain ⟨bv, hbv⟩ : ∃ bv, treeB b t = bv := ⟨_, rfl⟩
  rw [hbv] at hcall hno
  have HCALL := hid hcall
  have HBOX := hid hbox
  have HEV := hid hev
  have HB2 := hid hb2
  have HWE := hid (show W = (w.alloc (.cells #[.int .i64 b.letters, .slice As b.start.length cs, .slice An b.next.length cn] 25)).alloc (.cells #[.slice none 0 0, .slice none 0 0] 31) by rw [hW, hW0])
  clear hW0 hbox0 hW hb0 hbox hb1 hz0 hb2 hev hcall hbv ho hn ht
  have NOEND := hid (show ∀ W9 : World, Below w.heap.size w W9 → StepSays b t a w (.returned (.tuple #[.slice none 0 0, .agg #[.slice none 0 0, .slice none 0 0]])) W9 from fun W9 hb9 =>
    ⟨[], [], [], none, none, none, 0, 0, 0, rfl, hb9, RdN.nil _ _ _ (by omega), RdI.nil _ _ _ (by omega), RdI.nil _ _ _ (by omega), by rw [if_neg HNO.out]; exact ⟨rfl, rfl, rfl⟩⟩)
  cases bv
  · clear hno
    go_enter Try.func12, Try.ntmps12
    go_wp2_with ((refine HCALL.out.mono ?_); rintro e w1 ⟨rfl, hb3⟩; rw [← HWE.out] at hb3; have HB3 := hid hb3; obtain ⟨x0, x1, x2, xl⟩ := (HBOX.out.below hb3).cells; have hev1 := (hb3.block _ (lt_of_block HEV.out)).trans HEV.out; have q0 := block_cell hev1 (i := 0) rfl; have q1 := block_cell hev1 (i := 1) rfl; have qf0 := block_free (i := 0) hev1; have qf1 := block_free (i := 1) hev1; have HEV1 := hid hev1; clear hb3 hev1)
    refine bodyPost_gen fun W9 hW9 => ?_
    have hev9 : W9.heap[w.heap.size + 1]? = some (.cells #[.slice none 0 0, .slice none 0 0] 31 (0, 0)) := by
      rw [hW9, set_block (set_block HEV1.out _)]; rfl
    have r0 := block_cell hev9 (i := 0) rfl
    have r1 := block_cell hev9 (i := 1) rfl
    have hb9 : Below w.heap.size w W9 := by
      rw [hW9]
      exact ((HB2.out.trans (HB3.out.mono HB2.out.size)).setCell (p := ⟨w.heap.size + 1, 0, none⟩) (by show w.heap.size ≤ w.heap.size + 1; omega) _).setCell (p := ⟨w.heap.size + 1, 1, none⟩) (by show w.heap.size ≤ w.heap.size + 1; omega) _
    have HB9 := hid hb9
    clear hW9 hev9 hb9
    exact bodyPost_ret (v := .tuple #[.slice none 0 0, .agg #[.slice none 0 0, .slice none 0 0]]) (by simp [results, Try.results12, go_sem, r0, r1]) rfl (NOEND.out W9 HB9.out)
  · by_cases h1 : a < 0
    · have h1d : decide (a < 0) = true := decide_eq_true h1
      clear hno h1
      go_enter Try.func12, Try.ntmps12
      go_wp2_with ((refine HCALL.out.mono ?_); rintro e w1 ⟨rfl, hb3⟩; rw [← HWE.out] at hb3; have HB3 := hid hb3; obtain ⟨x0, x1, x2, xl⟩ := (HBOX.out.below hb3).cells; have hev1 := (hb3.block _ (lt_of_block HEV.out)).trans HEV.out; have q0 := block_cell hev1 (i := 0) rfl; have q1 := block_cell hev1 (i := 1) rfl; have qf0 := block_free (i := 0) hev1; have qf1 := block_free (i := 1) hev1; have HEV1 := hid hev1; clear hb3 hev1)
      refine bodyPost_gen fun W9 hW9 => ?_
      have hev9 : W9.heap[w.heap.size + 1]? = some (.cells #[.slice none 0 0, .slice none 0 0] 31 (0, 0)) := by
        rw [hW9, set_block (set_block HEV1.out _)]; rfl
      have r0 := block_cell hev9 (i := 0) rfl
      have r1 := block_cell hev9 (i := 1) rfl
      have hb9 : Below w.heap.size w W9 := by
        rw [hW9]
        exact ((HB2.out.trans (HB3.out.mono HB2.out.size)).setCell (p := ⟨w.heap.size + 1, 0, none⟩) (by show w.heap.size ≤ w.heap.size + 1; omega) _).setCell (p := ⟨w.heap.size + 1, 1, none⟩) (by show w.heap.size ≤ w.heap.size + 1; omega) _
      have HB9 := hid hb9
      clear hW9 hev9 hb9
      exact bodyPost_ret (v := .tuple #[.slice none 0 0, .agg #[.slice none 0 0, .slice none 0 0]]) (by simp [results, Try.results12, go_sem, r0, r1]) rfl (NOEND.out W9 HB9.out)
    · have h1d : decide (a < 0) = false := decide_eq_false h1
      have h2 : b.letters ≤ a := by
        rcases Int.lt_or_le a b.letters with h | h
        · exact absurd ⟨rfl, by omega, h⟩ hno
        · exact h
      have h2d : decide (b.letters ≤ a) = true := decide_eq_true h2
      clear hno h1 h2
      go_enter Try.func12, Try.ntmps12
      go_wp2_with ((refine HCALL.out.mono ?_); rintro e w1 ⟨rfl, hb3⟩; rw [← HWE.out] at hb3; have HB3 := hid hb3; obtain ⟨x0, x1, x2, xl⟩ := (HBOX.out.below hb3).cells; have hev1 := (hb3.block _ (lt_of_block HEV.out)).trans HEV.out; have q0 := block_cell hev1 (i := 0) rfl; have q1 := block_cell hev1 (i := 1) rfl; have qf0 := block_free (i := 0) hev1; have qf1 := block_free (i := 1) hev1; have HEV1 := hid hev1; clear hb3 hev1)
      refine bodyPost_gen fun W9 hW9 => ?_
      have hev9 : W9.heap[w.heap.size + 1]? = some (.cells #[.slice none 0 0, .slice none 0 0] 31 (0, 0)) := by
        rw [hW9, set_block (set_block HEV1.out _)]; rfl
      have r0 := block_cell hev9 (i := 0) rfl
      have r1 := block_cell hev9 (i := 1) rfl
      have hb9 : Below w.heap.size w W9 := by
        rw [hW9]
        exact ((HB2.out.trans (HB3.out.mono HB2.out.size)).setCell (p := ⟨w.heap.size + 1, 0, none⟩) (by show w.heap.size ≤ w.heap.size + 1; omega) _).setCell (p := ⟨w.heap.size + 1, 1, none⟩) (by show w.heap.size ≤ w.heap.size + 1; omega) _
      have HB9 := hid hb9
      clear hW9 hev9 hb9
      exact bodyPost_ret (v := .tuple #[.slice none 0 0, .agg #[.slice none 0 0, .slice none 0 0]]) (by simp [results, Try.results12, go_sem, r0, r1]) rfl (NOEND.out W9 HB9.out)
end Go.Proofs.Ythhknonaebnooaa
