/-
  Walk of pair.
  Pairs of formulas with the same kernel.
  The contracts of slices.SortFunc and slices.Sort at the numbers of this program (laid by a tool of the kit).
  slices.SortFunc with Compare at a row of formulas of the caller's own.
  Walks of small functions behind join: negated, Clip, the closure that compares two elements.
-/
import Derived.Test.YthdidjmmhhchmaaDoorZ21
import Derived.Shelf.SlSortCmp.NoneTotal
import Derived.Shelf.SortM.Plain
import Derived.Shelf.SortM.SortNone
import Derived.Test.YthdidjmmhhchmaaDoorChecked
set_option linter.unusedVariables false
set_option linter.unusedSimpArgs false
namespace Go.Proofs.YthdidjmmhhchmaaDoor
open Go.RowKit Go.Shelf
attribute [local go_sem] cell_alloc_old

def pairB (f g : Fm) : Bool := !((kernZ f).2 == 0) || !((kernZ g).2 == 0) || ((kernZ f).1.cmp (kernZ g).1 == 0)
theorem kernZ_size (f : Fm) : (kernZ f).1.size ≤ 1000000 := by
  unfold kernZ
  split
  · split
    · rename_i h
      have := (fits_true.1 h).1
      simp only
      omega
    · decide
  · decide
set_option maxRecDepth 100000 in
set_option maxHeartbeats 2000000 in
theorem pair_any {D E : Dom} (f g : Fm) (v v2 : Value) (w : World) (h : RdF3 w D v f) (h2 : RdF3 w E v2 g) (hg : GF w) (hk : GK w) :
    Calls Tryd.prog 15 #[v, v2] w fun e w' => e = .returned (.bool (pairB f g)) ∧ Below w.heap.size w w' := by
  obtain ⟨A, c, rfl, ha⟩ := h
  obtain ⟨A2, c2, rfl, ha2⟩ := h2
  have HA := hid ha.old
  have HA2 := hid ha2.old
  have HG := hid hg
  have HK := hid hk
  clear ha ha2 hg hk
  go_enter Tryd.func15, Tryd.ntmps15
  go_upto_region 1 with (fail)
  refine wp_gen fun W hW => ?_
  have HB := hid (show Below w.heap.size w W by rw [hW]; go_grown)
  have HE := hid (show Box5 W w.heap.size f A c by
    show W.heap[w.heap.size]? = _
    rw [hW, at_old _ _ _ (by simp)]; exact at_new _ _ _ rfl)
  have HE2 := hid (show Box5 W (w.heap.size + 1) g A2 c2 by
    show W.heap[w.heap.size + 1]? = _
    rw [hW]; exact at_new _ _ _ (by simp))
  obtain ⟨x0, x1, x2, x3, x4, xl⟩ := HE.out.cells
  clear hW
  have HK1 := hid (kernel_any f _ W (RdF3.cells5 (HA.out.keep (Keeps.of_below HB.out fun _ h => h))) (HG.out.below HB.out HG.out.pos) (HK.out.below HB.out HK.out.pos))
  have HS1 := hid (kernZ_size f)
  have HP := hid (show pairB f g = (!((kernZ f).2 == 0) || !((kernZ g).2 == 0) || ((kernZ f).1.cmp (kernZ g).1 == 0)) from rfl)
  obtain ⟨k1, hk1⟩ : ∃ k1, k1 = kernZ f := ⟨_, rfl⟩
  obtain ⟨k2, hk2⟩ : ∃ k2, k2 = kernZ g := ⟨_, rfl⟩
  rw [← hk1] at HK1 HS1 HP
  rw [← hk2] at HP
  have HK2 := hid hk2
  clear hk1 hk2
  obtain ⟨f1, e1⟩ := k1
  obtain ⟨f2, e2⟩ := k2
  simp only at HK1 HS1 HP
  go_upto_region 2 with (first | (go_at_call 21; refine HK1.out.mono ?_; rintro e V ⟨kv, rfl, hbV, ⟨Ak, ck, rfl, hak⟩⟩))
  refine wp_gen fun W2 hW2 => ?_
  have hb2 : Below V.heap.size V W2 := by rw [hW2]; go_grown
  have HB2 := hid ((HB.out.trans (hbV.mono HB.out.size)).trans (hb2.mono (Nat.le_trans HB.out.size hbV.size)))
  have HO2 := hid (show OB W2 V.heap.size f1.op f1.name f1.val f1.bound Ak f1.args.length ck by rw [hW2]; exact at_new _ _ _ rfl)
  have HE22 := hid ((HE2.out.below hbV).below (hb2.mono (Nat.le_refl _)))
  have HAK := hid (show RdA W2 (Nw W.heap.size W2) f1.args Ak ck from hak.nw (V := fun _ => False) (Chg.of_new hb2) fun _ h => h.elim)
  obtain ⟨o1, ho1⟩ : ∃ o1, o1 = V.heap.size := ⟨_, rfl⟩
  rw [← ho1] at HO2 ⊢
  clear hW2 hbV hak hb2 ho1 x0 x1 x2 x3 x4 xl
  obtain ⟨x0, x1, x2, x3, x4, xl⟩ := HE22.out.cells
  have HKK := hid (show Calls Tryd.prog 21 #[.agg #[.int .i64 g.op, .string g.name, .int .i64 g.val, .int .i64 g.bound, .slice A2 g.args.length c2]] W2 fun e w' => ∃ kv, e = .returned (.tuple #[kv, .int .i64 e2]) ∧ NewF f2 W2 kv w' by
    have := kernel_any g _ W2 (RdF3.cells5 (HA2.out.keep (Keeps.of_below HB2.out fun _ h => h))) (HG.out.below HB2.out HG.out.pos) (HK.out.below HB2.out HK.out.pos)
    rw [← HK2.out] at this
    exact this)
  go_upto_region 3 with (first | (go_at_call 21; refine HKK.out.mono ?_; rintro e V2 ⟨kv2, rfl, hbV, ⟨Ak2, ck2, rfl, hak⟩⟩))
  refine wp_gen fun W3 hW3 => ?_
  have hb2 : Below V2.heap.size V2 W3 := by rw [hW3]; go_grown
  have HB3 := hid ((HB2.out.trans (hbV.mono HB2.out.size)).trans (hb2.mono (Nat.le_trans HB2.out.size hbV.size)))
  have HO3 := hid (show OB W3 V2.heap.size f2.op f2.name f2.val f2.bound Ak2 f2.args.length ck2 by rw [hW3]; exact at_new _ _ _ rfl)
  have HO23 := hid ((HO2.out.below hbV).below hb2)
  have HAK3 := hid (show RdA W3 (Nw W.heap.size W3) f1.args Ak ck from (HAK.out.nw (V := fun _ => False) ((Chg.of_new hbV).trans (Chg.of_new hb2)) fun _ h => h.elim))
  have HAK2 := hid (show RdA W3 (Nw W2.heap.size W3) f2.args Ak2 ck2 from hak.nw (V := fun _ => False) (Chg.of_new hb2) fun _ h => h.elim)
  obtain ⟨o2, ho2⟩ : ∃ o2, o2 = V2.heap.size := ⟨_, rfl⟩
  rw [← ho2] at HO3 ⊢
  clear hW3 hbV hak hb2 ho2 x0 x1 x2 x3 x4 xl
  obtain ⟨x0, x1, x2, x3, x4, xl⟩ := HO23.out.cells
  obtain ⟨z0, z1, z2, z3, z4, zl⟩ := HO3.out.cells
  have HCMP := hid (compare_any f1 f2 _ _ W3 (RdF3.cells5 HAK3.out) (RdF3.cells5 HAK2.out) HS1.out (.inl fun _ h => h.2))
  by_cases he1 : e1 = 0
  · subst he1
    by_cases he2 : e2 = 0
    · subst he2
      go_wp2_with (first | (go_at_call 8; refine HCMP.out.mono ?_; rintro e W9 ⟨rfl, hb9⟩))
      go_ret
      exact ⟨ret_bool (by rw [HP.out]; rfl), HB3.out.trans (hb9.below.mono HB3.out.size)⟩
    · have e2' := bne_true_of he2
      have HR := hid (show pairB f g = true by rw [HP.out]; simp [he2])
      clear he2
      go_wp2_with fail
      go_ret
      exact ⟨by rw [HR.out]; rfl, HB3.out⟩
  · have e1' := bne_true_of he1
    have HR := hid (show pairB f g = true by rw [HP.out]; simp [he1])
    clear he1
    go_wp2_with fail
    go_ret
    exact ⟨by rw [HR.out]; rfl, HB3.out⟩
end Go.Proofs.YthdidjmmhhchmaaDoor
set_option linter.unusedVariables false
set_option linter.unusedSimpArgs false
namespace Go.Proofs.YthdidjmmhhchmaaDoor

theorem kernZ_ok {f : Fm} (h : (kernZ f).2 = 0) : (kernZ f).1 = kf false f := by
  unfold kernZ at h ⊢
  split
  · rename_i h1
    rw [if_pos h1] at h
    split
    · rfl
    · rename_i h2
      rw [if_neg h2] at h
      cases h
  · rename_i h1
    rw [if_neg h1] at h
    cases h
theorem pairB_same {f g : Fm} (h : kf false f = kf false g) : pairB f g = true := by
  unfold pairB
  by_cases h1 : (kernZ f).2 = 0
  · by_cases h2 : (kernZ g).2 = 0
    · rw [kernZ_ok h1, kernZ_ok h2, h, cmp_self]
      simp
    · simp [h2]
  · simp [h1]
def bndF (o b : Int) (f : Fm) : Fm := .mk o ⟨#[]⟩ 0 b [f]
theorem pair_within (n : Nat) (f : Fm) : pairB (bndF 13 ((n + 1 : Nat) : Int) f) (opF 6 [f, opF 8 [bndF 13 (n : Int) f]]) = true := by
  refine pairB_same ?_
  have e1 : kf false (bndF 13 ((n + 1 : Nat) : Int) f) = repF 6 (n + 1) (kf false f) := by
    unfold bndF
    rw [kf_rep (.inl rfl)]; rfl
  have e2 : kf false (bndF 13 (n : Int) f) = repF 6 n (kf false f) := by
    unfold bndF
    rw [kf_rep (.inl rfl)]; rfl
  have e3 : kf false (opF 6 [f, opF 8 [bndF 13 (n : Int) f]]) = opF 6 [kf false f, opF 8 [kf false (bndF 13 (n : Int) f)]] := rfl
  rw [e1, e3, e2]; rfl
theorem pair_during (n : Nat) (f : Fm) : pairB (bndF 14 ((n + 1 : Nat) : Int) f) (opF 5 [f, opF 8 [bndF 14 (n : Int) f]]) = true := by
  refine pairB_same ?_
  have e1 : kf false (bndF 14 ((n + 1 : Nat) : Int) f) = repF 5 (n + 1) (kf false f) := by
    unfold bndF
    rw [kf_rep (.inr rfl)]; rfl
  have e2 : kf false (bndF 14 (n : Int) f) = repF 5 n (kf false f) := by
    unfold bndF
    rw [kf_rep (.inr rfl)]; rfl
  have e3 : kf false (opF 5 [f, opF 8 [bndF 14 (n : Int) f]]) = opF 5 [kf false f, opF 8 [kf false (bndF 14 (n : Int) f)]] := rfl
  rw [e1, e3, e2]; rfl
theorem pair_imp (f g : Fm) : pairB (opF 7 [f, g]) (opF 6 [opF 4 [f], g]) = true := pairB_same rfl
theorem pair_glob (f : Fm) : pairB (opF 4 [opF 12 [f]]) (opF 11 [opF 4 [f]]) = true := pairB_same rfl
theorem pair_hist (f : Fm) : pairB (opF 4 [opF 19 [f]]) (opF 18 [opF 4 [f]]) = true := pairB_same rfl
theorem pair_until (f g : Fm) : pairB (opF 4 [opF 9 [f, g]]) (opF 10 [opF 4 [f], opF 4 [g]]) = true := pairB_same rfl
theorem pair_fin (f : Fm) : pairB (opF 11 [f]) (opF 9 [opF 1 [], f]) = true := pairB_same rfl
theorem pair_since (v : Int) (f g : Fm) : pairB (opF 4 [lateF 16 v [f, g]]) (lateF 17 (1 - v) [opF 4 [f], opF 4 [g]]) = true := by
  refine pairB_same ?_
  have e1 : kf false (opF 4 [lateF 16 v [f, g]]) = .mk 17 ⟨#[]⟩ (1 - v) 0 [kf true f, kf true g] := rfl
  have e2 : kf false (lateF 17 (1 - v) [opF 4 [f], opF 4 [g]]) = .mk 17 ⟨#[]⟩ (1 - v) 0 [kf true f, kf true g] := rfl
  rw [e1, e2]
theorem pair_once (f : Fm) : pairB (opF 18 [f]) (lateF 16 0 [opF 1 [], f]) = true := pairB_same rfl
end Go.Proofs.YthdidjmmhhchmaaDoor
namespace Go.Proofs.YthdidjmmhhchmaaDoor
open Go.Shelf
def sortFuncA_ren : Go.Shelf.Ren := ⟨fun | 6 => 83 | 15 => 49 | 14 => 88 | 28 => 70 | 29 => 71 | 20 => 89 | 21 => 90 | 22 => 91 | 23 => 92 | 24 => 93 | 25 => 94 | 26 => 95 | 27 => 96 | 46 => 97 | 47 => 78 | 48 => 79 | 49 => 98 | 50 => 99 | 57 => 100 | n => n, fun | 22 => 22 | 24 => 24 | 25 => 27 | 3 => 3 | 39 => 88 | 0 => 0 | 53 => 105 | 55 => 107 | 4 => 4 | 46 => 97 | 45 => 96 | 50 => 102 | 5 => 5 | 9 => 9 | 66 => 111 | 70 => 115 | 76 => 121 | 77 => 122 | n => n, fun | n => n⟩
theorem sortFuncA : Go.Proofs.SlLaysF0.n6 Tryd.prog sortFuncA_ren := {
  mixed := by kernel_rfl
  f6 := ⟨Tryd.f83.name, by decide, Tryd.func83.trans (congrArg some (by kernel_rfl))⟩
  f14 := ⟨Tryd.f88.name, by decide, Tryd.func88.trans (congrArg some (by kernel_rfl))⟩
  f15 := Tryd.func49.trans (congrArg some (by kernel_rfl))
  f20 := ⟨Tryd.f89.name, by decide, Tryd.func89.trans (congrArg some (by kernel_rfl))⟩
  f21 := ⟨Tryd.f90.name, by decide, Tryd.func90.trans (congrArg some (by kernel_rfl))⟩
  f22 := ⟨Tryd.f91.name, by decide, Tryd.func91.trans (congrArg some (by kernel_rfl))⟩
  f23 := ⟨Tryd.f92.name, by decide, Tryd.func92.trans (congrArg some (by kernel_rfl))⟩
  f24 := ⟨Tryd.f93.name, by decide, Tryd.func93.trans (congrArg some (by kernel_rfl))⟩
  f25 := ⟨Tryd.f94.name, by decide, Tryd.func94.trans (congrArg some (by kernel_rfl))⟩
  f26 := ⟨Tryd.f95.name, by decide, Tryd.func95.trans (congrArg some (by kernel_rfl))⟩
  f27 := ⟨Tryd.f96.name, by decide, Tryd.func96.trans (congrArg some (by kernel_rfl))⟩
  f28 := Tryd.func70.trans (congrArg some (by kernel_rfl))
  f29 := Tryd.func71.trans (congrArg some (by kernel_rfl))
  f46 := ⟨Tryd.f97.name, by decide, Tryd.func97.trans (congrArg some (by kernel_rfl))⟩
  f47 := Tryd.func78.trans (congrArg some (by kernel_rfl))
  f48 := Tryd.func79.trans (congrArg some (by kernel_rfl))
  f49 := ⟨Tryd.f98.name, by decide, Tryd.func98.trans (congrArg some (by kernel_rfl))⟩
  f50 := ⟨Tryd.f99.name, by decide, Tryd.func99.trans (congrArg some (by kernel_rfl))⟩
  f57 := ⟨Tryd.f100.name, by decide, Tryd.func100.trans (congrArg some (by kernel_rfl))⟩
  t0 := Tryd.underlying0
  a0 := Tryd.isAgg0
  z0 := Tryd.sizeOf0
  v0 := Tryd.zeroValue0
  t3 := Tryd.underlying3
  a3 := Tryd.isAgg3
  z3 := Tryd.sizeOf3
  v3 := Tryd.zeroValue3
  t4 := Tryd.underlying4
  a4 := Tryd.isAgg4
  z4 := Tryd.sizeOf4
  v4 := Tryd.zeroValue4
  t5 := Tryd.underlying5
  a5 := Tryd.isAgg5
  z5 := Tryd.sizeOf5
  v5 := Tryd.zeroValue5
  t9 := Tryd.underlying9
  a9 := Tryd.isAgg9
  z9 := Tryd.sizeOf9
  v9 := Tryd.zeroValue9
  t22 := Tryd.underlying22
  a22 := Tryd.isAgg22
  z22 := Tryd.sizeOf22
  v22 := Tryd.zeroValue22
  t25 := Tryd.underlying27
  a25 := Tryd.isAgg27
  z25 := Tryd.sizeOf27
  v25 := Tryd.zeroValue27
  t39 := Tryd.underlying88
  a39 := Tryd.isAgg88
  z39 := Tryd.sizeOf88
  v39 := Tryd.zeroValue88
  t45 := Tryd.underlying96
  a45 := Tryd.isAgg96
  z45 := Tryd.sizeOf96
  v45 := Tryd.zeroValue96
  t46 := Tryd.underlying97
  a46 := Tryd.isAgg97
  z46 := Tryd.sizeOf97
  v46 := Tryd.zeroValue97
  t50 := Tryd.underlying102
  a50 := Tryd.isAgg102
  z50 := Tryd.sizeOf102
  v50 := Tryd.zeroValue102
  t53 := Tryd.underlying105
  a53 := Tryd.isAgg105
  z53 := Tryd.sizeOf105
  v53 := Tryd.zeroValue105
  t55 := Tryd.underlying107
  a55 := Tryd.isAgg107
  z55 := Tryd.sizeOf107
  v55 := Tryd.zeroValue107
  t66 := Tryd.underlying111
  a66 := Tryd.isAgg111
  z66 := Tryd.sizeOf111
  v66 := Tryd.zeroValue111
  t70 := Tryd.underlying115
  a70 := Tryd.isAgg115
  z70 := Tryd.sizeOf115
  v70 := Tryd.zeroValue115
  t76 := Tryd.underlying121
  a76 := Tryd.isAgg121
  z76 := Tryd.sizeOf121
  v76 := Tryd.zeroValue121
  t77 := Tryd.underlying122
  a77 := Tryd.isAgg122
  z77 := Tryd.sizeOf122
  v77 := Tryd.zeroValue122 }
def sortStrA_ren : Go.Shelf.Ren := ⟨fun | 6 => 35 | 8 => 49 | 9 => 48 | 19 => 70 | 20 => 71 | 21 => 61 | 22 => 62 | 23 => 63 | 24 => 64 | 25 => 65 | 26 => 66 | 27 => 67 | 28 => 68 | 29 => 69 | 36 => 77 | 31 => 78 | 32 => 79 | 37 => 80 | 38 => 81 | 39 => 82 | 41 => 87 | n => n, fun | 27 => 31 | 29 => 9 | 3 => 3 | 32 => 88 | 26 => 31 | 0 => 0 | 44 => 105 | 46 => 107 | 4 => 4 | 36 => 97 | 35 => 96 | 41 => 102 | 5 => 5 | 9 => 9 | 53 => 111 | 57 => 115 | 63 => 121 | 64 => 122 | n => n, fun | n => n⟩
theorem sortStrA : Go.Proofs.SlLaysM.n6 Tryd.prog sortStrA_ren := {
  mixed := by kernel_rfl
  f6 := ⟨Tryd.f35.name, by decide, Tryd.func35.trans (congrArg some (by kernel_rfl))⟩
  f8 := Tryd.func49.trans (congrArg some (by kernel_rfl))
  f9 := ⟨Tryd.f48.name, by decide, Tryd.func48.trans (congrArg some (by kernel_rfl))⟩
  f19 := Tryd.func70.trans (congrArg some (by kernel_rfl))
  f20 := Tryd.func71.trans (congrArg some (by kernel_rfl))
  f21 := ⟨Tryd.f61.name, by decide, Tryd.func61.trans (congrArg some (by kernel_rfl))⟩
  f22 := ⟨Tryd.f62.name, by decide, Tryd.func62.trans (congrArg some (by kernel_rfl))⟩
  f23 := ⟨Tryd.f63.name, by decide, Tryd.func63.trans (congrArg some (by kernel_rfl))⟩
  f24 := ⟨Tryd.f64.name, by decide, Tryd.func64.trans (congrArg some (by kernel_rfl))⟩
  f25 := ⟨Tryd.f65.name, by decide, Tryd.func65.trans (congrArg some (by kernel_rfl))⟩
  f26 := ⟨Tryd.f66.name, by decide, Tryd.func66.trans (congrArg some (by kernel_rfl))⟩
  f27 := ⟨Tryd.f67.name, by decide, Tryd.func67.trans (congrArg some (by kernel_rfl))⟩
  f28 := ⟨Tryd.f68.name, by decide, Tryd.func68.trans (congrArg some (by kernel_rfl))⟩
  f29 := ⟨Tryd.f69.name, by decide, Tryd.func69.trans (congrArg some (by kernel_rfl))⟩
  f31 := Tryd.func78.trans (congrArg some (by kernel_rfl))
  f32 := Tryd.func79.trans (congrArg some (by kernel_rfl))
  f36 := ⟨Tryd.f77.name, by decide, Tryd.func77.trans (congrArg some (by kernel_rfl))⟩
  f37 := ⟨Tryd.f80.name, by decide, Tryd.func80.trans (congrArg some (by kernel_rfl))⟩
  f38 := ⟨Tryd.f81.name, by decide, Tryd.func81.trans (congrArg some (by kernel_rfl))⟩
  f39 := ⟨Tryd.f82.name, by decide, Tryd.func82.trans (congrArg some (by kernel_rfl))⟩
  f41 := ⟨Tryd.f87.name, by decide, Tryd.func87.trans (congrArg some (by kernel_rfl))⟩
  t0 := Tryd.underlying0
  a0 := Tryd.isAgg0
  z0 := Tryd.sizeOf0
  v0 := Tryd.zeroValue0
  t3 := Tryd.underlying3
  a3 := Tryd.isAgg3
  z3 := Tryd.sizeOf3
  v3 := Tryd.zeroValue3
  t4 := Tryd.underlying4
  a4 := Tryd.isAgg4
  z4 := Tryd.sizeOf4
  v4 := Tryd.zeroValue4
  t5 := Tryd.underlying5
  a5 := Tryd.isAgg5
  z5 := Tryd.sizeOf5
  v5 := Tryd.zeroValue5
  t9 := Tryd.underlying9
  a9 := Tryd.isAgg9
  z9 := Tryd.sizeOf9
  v9 := Tryd.zeroValue9
  t26 := Tryd.underlying31
  a26 := Tryd.isAgg31
  z26 := Tryd.sizeOf31
  v26 := Tryd.zeroValue31
  t27 := Tryd.underlying31
  a27 := Tryd.isAgg31
  z27 := Tryd.sizeOf31
  v27 := Tryd.zeroValue31
  t29 := Tryd.underlying9
  a29 := Tryd.isAgg9
  z29 := Tryd.sizeOf9
  v29 := Tryd.zeroValue9
  t32 := Tryd.underlying88
  a32 := Tryd.isAgg88
  z32 := Tryd.sizeOf88
  v32 := Tryd.zeroValue88
  t35 := Tryd.underlying96
  a35 := Tryd.isAgg96
  z35 := Tryd.sizeOf96
  v35 := Tryd.zeroValue96
  t36 := Tryd.underlying97
  a36 := Tryd.isAgg97
  z36 := Tryd.sizeOf97
  v36 := Tryd.zeroValue97
  t41 := Tryd.underlying102
  a41 := Tryd.isAgg102
  z41 := Tryd.sizeOf102
  v41 := Tryd.zeroValue102
  t44 := Tryd.underlying105
  a44 := Tryd.isAgg105
  z44 := Tryd.sizeOf105
  v44 := Tryd.zeroValue105
  t46 := Tryd.underlying107
  a46 := Tryd.isAgg107
  z46 := Tryd.sizeOf107
  v46 := Tryd.zeroValue107
  t53 := Tryd.underlying111
  a53 := Tryd.isAgg111
  z53 := Tryd.sizeOf111
  v53 := Tryd.zeroValue111
  t57 := Tryd.underlying115
  a57 := Tryd.isAgg115
  z57 := Tryd.sizeOf115
  v57 := Tryd.zeroValue115
  t63 := Tryd.underlying121
  a63 := Tryd.isAgg121
  z63 := Tryd.sizeOf121
  v63 := Tryd.zeroValue121
  t64 := Tryd.underlying122
  a64 := Tryd.isAgg122
  z64 := Tryd.sizeOf122
  v64 := Tryd.zeroValue122 }
end Go.Proofs.YthdidjmmhhchmaaDoor
set_option linter.unusedVariables false
set_option linter.unusedSimpArgs false
namespace Go.Proofs.YthdidjmmhhchmaaDoor
open Go.RowKit Go.Shelf Go.Sort

theorem Bel.grow {w w' : World} (h : Bel w w') : ∃ q os', w' = Go.Sort.grow (w.drewN q) os' := by
  refine ⟨w'.drawn - w.drawn, w'.heap.extract w.heap.size w'.heap.size, ?_⟩
  obtain ⟨hb, hd⟩ := h
  obtain ⟨heap, tape, drawn, os, output⟩ := w
  obtain ⟨heap', tape', drawn', os', output'⟩ := w'
  obtain ⟨h1, h2, h3, h4, h5⟩ := hb
  simp only at h1 h2 h3 h4 h5 hd
  subst h1 h2 h3
  have hh : heap' = heap ++ heap'.extract heap.size heap'.size := by
    apply Array.ext_getElem?
    intro k
    by_cases hk : k < heap.size
    · rw [Array.getElem?_append_left hk]
      exact h5 k hk
    · rw [Array.getElem?_append_right (by omega), Array.getElem?_extract]
      have e : heap.size + (k - heap.size) = k := by omega
      by_cases hk' : k < heap'.size
      · rw [if_pos (by omega), e]
      · rw [if_neg (by omega), Array.getElem?_eq_none (by omega)]
  have hd' : drawn' = drawn + (drawn' - drawn) := by omega
  show World.mk _ _ _ _ _ = World.mk (heap ++ heap'.extract heap.size heap'.size) _ (drawn + (drawn' - drawn)) _ _
  rw [← hh, ← hd']
  rfl
/-- Formulas whose arguments lie in old memory. -/
def FA (w : World) (D : Dom) : Type := { x : Fm × (Option Addr × Nat) // RdA w D x.1.args x.2.1 x.2.2 ∧ x.1.size ≤ 1000000 }
instance (w : World) (D : Dom) : Inhabited (FA w D) := ⟨⟨(zeroF, (none, 0)), RdA.nil _ _ _ (Nat.zero_le _), by decide⟩⟩
def FA.enc {w : World} {D : Dom} (x : FA w D) : List Value := fcells x.1.1 x.1.2
def FA.cf {w : World} {D : Dom} (x y : FA w D) : Int := x.1.1.cmp y.1.1
theorem FA.lt_iff {w : World} {D : Dom} (x y : FA w D) : ltOf FA.cf x y = true ↔ x.1.1.cmp y.1.1 < 0 := by unfold ltOf FA.cf; simp
theorem FA.swo (w : World) (D : Dom) : SWO (ltOf (FA.cf (w := w) (D := D))) where
  irrefl x := by
    cases h : ltOf FA.cf x x
    · rfl
    · rw [FA.lt_iff, cmp_self] at h; omega
  trans x y z h1 h2 := by
    rw [FA.lt_iff] at *
    exact (cmp_tri _ _ _).lt (by omega) (by omega) (.inl h1)
  ntrans x y z h1 h2 := by
    have k1 : ¬ x.1.1.cmp y.1.1 < 0 := fun e => by rw [(FA.lt_iff x y).2 e] at h1; cases h1
    have k2 : ¬ y.1.1.cmp z.1.1 < 0 := fun e => by rw [(FA.lt_iff y z).2 e] at h2; cases h2
    cases h : ltOf FA.cf x z
    · rfl
    · rw [FA.lt_iff] at h
      have a1 := cmp_anti x.1.1 y.1.1
      have a2 := cmp_anti y.1.1 z.1.1
      have a3 := cmp_anti x.1.1 z.1.1
      have := (cmp_tri z.1.1 y.1.1 x.1.1).le (by omega) (by omega)
      omega
theorem heap_sortWorldK {α : Type} [Inhabited α] (enc : α → List Value) (k : Nat) (w : World) (blk off m : Nat) (dk : Array α) (os : Array Obj) {j : Nat} (hj : j < w.heap.size) (hne : j ≠ blk) : (sortWorldK enc k w blk off m dk os).heap[j]? = w.heap[j]? := by
  unfold sortWorldK Go.Sort.grow putRowK putRow mapBlock
  simp only
  rw [Array.getElem?_append_left (by simpa using hj), Array.getElem?_modify, if_neg (fun e => hne e.symm)]
  rfl
theorem block_sortWorldK {α : Type} [Inhabited α] (enc : α → List Value) (k : Nat) (w : World) (blk off m : Nat) (dk : Array α) (os : Array Obj) {cs : Array Value} {t : TypeId} {fr : Nat × Nat} (h : w.heap[blk]? = some (.cells cs t fr)) :
    ∃ cs', (sortWorldK enc k w blk off m dk os).heap[blk]? = some (.cells cs' t fr) ∧ cs'.size = cs.size ∧ ∀ j, (¬ (off ≤ j ∧ j < off + dk.size * k)) → cs'[j]? = cs[j]? := by
  have hb : blk < w.heap.size := lt_of_block h
  refine ⟨putCells id off (flatK enc k dk) cs, ?_, by simp [putCells], fun j hj => ?_⟩
  · unfold sortWorldK Go.Sort.grow putRowK putRow mapBlock
    simp only
    rw [Array.getElem?_append_left (by simpa using hb), Array.getElem?_modify, if_pos rfl]
    show Option.map _ (w.heap[blk]?) = _
    rw [h]
    rfl
  · unfold putCells
    rw [Array.getElem?_mapIdx]
    have : (flatK enc k dk).size = dk.size * k := by simp [flatK]
    rw [this]
    cases cs[j]? with
    | none => rfl
    | some x => simp [hj]
theorem sortWorldK_chg {α : Type} [Inhabited α] (enc : α → List Value) (k : Nat) (w : World) (blk off m : Nat) (dk : Array α) (os : Array Obj) : Chg (fun x => x = blk) w (sortWorldK enc k w blk off m dk os) :=
  ⟨rfl, rfl, rfl, size_sortWorldK_c enc k w blk off m dk os, fun j hj hne => heap_sortWorldK enc k w blk off m dk os hj hne⟩
/-- Compare as the sort calls it. -/
theorem cmp_lays {w : World} {D : Dom} (blk off size : Nat) (hD : ∀ k, D k → Cl w k ∧ k ≠ blk) : CmpLays Tryd.prog 8 #[] (FA.enc (w := w) (D := D)) 5 FA.cf blk off size w := by
  intro m os dk hdk x y
  have hk : Keeps D w (sortWorldK FA.enc 5 w blk off m dk os) := (sortWorldK_chg FA.enc 5 w blk off m dk os).keeps fun k _ hk hv => (hD k hk).2 hv
  obtain ⟨⟨f, A, c⟩, hx, hxs⟩ := x
  obtain ⟨⟨g, A2, c2⟩, hy, hys⟩ := y
  refine (compare_any f g _ _ _ (RdF3.cells5 (hx.keep hk)) (RdF3.cells5 (hy.keep hk)) hxs (.inl fun k hk' => ((hD k hk').1).of_eq (hk.block k hk' (hD k hk').1.lt))).mono ?_
  rintro e w' ⟨rfl, hb⟩
  exact ⟨rfl, hb.grow⟩
theorem flatK_at {w : World} {D : Dom} (d : Array (FA w D)) {i j : Nat} (hi : i < d.size) (hj : j < 5) : (flatK FA.enc 5 d)[i * 5 + j]? = (FA.enc d[i]!)[j]? := by
  have hlt : i * 5 + j < (flatK FA.enc 5 d).size := by simp [flatK]; omega
  have h1 := get_flatK (FA.enc (w := w) (D := D)) 5 d (i * 5 + j) (by omega)
  rw [getElem!_pos (flatK FA.enc 5 d) (i * 5 + j) hlt] at h1
  rw [Array.getElem?_eq_getElem hlt, h1, show (i * 5 + j) / 5 = i by omega, show (i * 5 + j) % 5 = j by omega]
  have hl : j < (FA.enc d[i]!).length := by show j < 5; exact hj
  rw [List.getElem?_eq_getElem hl, getElem!_pos (FA.enc d[i]!) j hl]
def gsOf {w : World} {D : Dom} (d : Array (FA w D)) : List Fm := d.toList.map fun x => x.1.1
def slOf {w : World} {D : Dom} (d : Array (FA w D)) : List (Option Addr × Nat) := d.toList.map fun x => x.1.2
theorem gsOf_at {w : World} {D : Dom} (d : Array (FA w D)) {i : Nat} (hi : i < d.size) : (gsOf d).getD i default = (d[i]!).1.1 ∧ (slOf d).getD i (none, 0) = (d[i]!).1.2 := by
  unfold gsOf slOf
  rw [getElem!_pos d i hi, List.getD_eq_getElem?_getD, List.getD_eq_getElem?_getD, List.getElem?_map, List.getElem?_map, Array.getElem?_toList, Array.getElem?_eq_getElem hi]
  exact ⟨rfl, rfl⟩
theorem flat_cells {w : World} {D : Dom} (d : Array (FA w D)) : (flatK FA.enc 5 d).toList = cellsF (gsOf d) (slOf d) := by
  have hl : (gsOf d).length = d.size := by simp [gsOf]
  have hl2 : (slOf d).length = (gsOf d).length := by simp [gsOf, slOf]
  apply List.ext_getElem?
  intro t
  by_cases ht : t < d.size * 5
  · have e : t = t / 5 * 5 + t % 5 := by omega
    have hi : t / 5 < d.size := by omega
    rw [e, Array.getElem?_toList, flatK_at d hi (by omega), cellsF_at hl2 (by omega) (by omega), (gsOf_at d hi).1, (gsOf_at d hi).2]
    rfl
  · rw [List.getElem?_eq_none (by simp [flatK]; omega), List.getElem?_eq_none (by rw [cellsF_len hl2, hl]; omega)]
theorem getD_memF {gs : List Fm} {i : Nat} (hi : i < gs.length) : gs.getD i default ∈ gs := by simp [List.getD, hi]
/-- Sorted. -/
def SortF (gs : List Fm) : Prop := gs.Pairwise fun a b => a.cmp b ≤ 0
theorem sortfunc_any {w : World} {base g c n : Nat} {gs : List Fm} {sl : List (Option Addr × Nat)} (h : FRow w base (some ⟨g, 0, none⟩) c gs sl) (hn : n = gs.length) (hs : ∀ f, f ∈ gs → f.size ≤ 1000000) (hlen : gs.length ≤ 1000000) :
    Calls Tryd.prog 83 #[.slice (some ⟨g, 0, none⟩) n c, .func (.func 8) #[] #[]] w fun e w' =>
      e = .returned (.tuple #[]) ∧ ∃ gs' sl', gs'.Perm gs ∧ SortF gs' ∧ FRow w' base (some ⟨g, 0, none⟩) c gs' sl' ∧ Chg (fun x => x = g) w w' := by
  subst hn
  obtain ⟨D, hD⟩ : ∃ D : Dom, D = fun k => Nw base w k ∧ (Value.slice (some ⟨g, 0, none⟩) gs.length c).ownBlock ≠ some k := ⟨_, rfl⟩
  have hDk : ∀ k, D k → (base ≤ k ∧ Cl w k) ∧ k ≠ g := fun k hk => by
    rw [hD] at hk
    exact ⟨hk.1, fun e => hk.2 (by rw [e]; rfl)⟩
  have harg := h.arg
  rw [← hD] at harg
  clear hD
  obtain ⟨d, hd⟩ : ∃ d : Array (FA w D), d = Array.ofFn (n := gs.length) fun i => (⟨(gs.getD i default, sl.getD i (none, 0)), harg i i.2, hs _ (getD_memF i.2)⟩ : FA w D) := ⟨_, rfl⟩
  have hds : d.size = gs.length := by rw [hd]; exact Array.size_ofFn
  have hdi : ∀ i (hi : i < gs.length), d[i]? = some (⟨(gs.getD i default, sl.getD i (none, 0)), harg i hi, hs _ (getD_memF hi)⟩ : FA w D) := fun i hi => by
    rw [hd]; exact Array.getElem?_ofFn.trans (dif_pos hi)
  have hgs : gsOf d = gs := by
    apply List.ext_getElem?
    intro i
    by_cases hi : i < gs.length
    · unfold gsOf
      rw [List.getElem?_map, Array.getElem?_toList, hdi i hi, List.getElem?_eq_getElem hi]
      show some (gs.getD i default) = some gs[i]
      simp [List.getD, hi]
    · rw [List.getElem?_eq_none (by simp [gsOf, hds]; omega), List.getElem?_eq_none (by omega)]
  have hsl : slOf d = sl := by
    apply List.ext_getElem?
    intro i
    by_cases hi : i < gs.length
    · unfold slOf
      have hi2 : i < sl.length := by rw [h.len]; exact hi
      rw [List.getElem?_map, Array.getElem?_toList, hdi i hi, List.getElem?_eq_getElem hi2]
      show some (sl.getD i (none, 0)) = some sl[i]
      simp [List.getD, hi2]
    · rw [List.getElem?_eq_none (by simp [slOf, hds]; omega), List.getElem?_eq_none (by rw [h.len]; omega)]
  have hflat : (flatK FA.enc 5 d).toList = cellsF gs sl := by rw [flat_cells, hgs, hsl]
  have hHold : HoldsK FA.enc 5 w g 0 d := by
    intro j hj
    rw [Nat.zero_add]
    have hj' : j < (flatK FA.enc 5 d).size := hj
    have hu : (cellsF gs sl)[j]? = some ((flatK FA.enc 5 d)[j]!) := by
      rw [← hflat, Array.getElem?_toList, Array.getElem?_eq_getElem hj', getElem!_pos (flatK FA.enc 5 d) j hj']
    have := own_cell h.own hu
    exact ⟨this.1, this.2.1⟩
  have hgl : g < w.heap.size := (h.ge rfl).2
  have hcon := AnyQ.slices_SortFunc sortFuncA 5 Tryd.isAgg24 Tryd.sizeOf24 (FA.enc (w := w) (D := D)) (fun _ => rfl) (fun x v hv => by
    simp [FA.enc, fcells] at hv
    rcases hv with rfl | rfl | rfl | rfl | rfl <;> rfl) FA.cf (FA.swo w D) 8 #[] g 0 c d w (enters_of Tryd.func8 (by kernel_rfl) rfl) (cmp_lays g 0 d.size fun k hk => ⟨(hDk k hk).1.2, (hDk k hk).2⟩) hHold hgl (by omega)
  rw [hds] at hcon
  change Calls Tryd.prog 83 _ _ _ at hcon
  refine hcon.mono ?_
  rintro e w' ⟨rfl, d', n, os, ⟨hp1, _, hp3⟩, hsort, rfl⟩
  have hd's : d'.size = gs.length := by omega
  have hlen' : (gsOf d').length = gs.length := by simp [gsOf]; omega
  have hl2 : (slOf d').length = (gsOf d').length := by simp [gsOf, slOf]
  refine ⟨rfl, gsOf d', slOf d', ?_, ?_, ?_, sortWorldK_chg _ _ _ _ _ _ _ _⟩
  · rw [← hgs]
    unfold gsOf
    refine List.Perm.map _ ?_
    have e1 : d'.extract 0 gs.length = d' := by rw [← hd's]; simp
    have e2 : d.extract 0 gs.length = d := by rw [← hds]; simp
    rwa [e1, e2] at hp3
  · unfold SortF
    rw [List.pairwise_iff_getElem]
    intro i j hi hj hij
    have hi' : i < d'.size := by omega
    have hj' : j < d'.size := by omega
    have := hsort i j (Nat.zero_le _) hij (by omega)
    have h1 : ¬ (d'[j]!).1.1.cmp (d'[i]!).1.1 < 0 := fun e => by rw [(FA.lt_iff _ _).2 e] at this; cases this
    have e1 := (gsOf_at d' hi').1
    have e2 := (gsOf_at d' hj').1
    have g1 : (gsOf d')[i] = (d'[i]!).1.1 := by rw [← e1]; simp [List.getD, hi]
    have g2 : (gsOf d')[j] = (d'[j]!).1.1 := by rw [← e2]; simp [List.getD, hj]
    rw [g1, g2]
    have := cmp_anti (d'[i]!).1.1 (d'[j]!).1.1
    omega
  · rcases h.own.2 with ⟨h0, _⟩ | ⟨g', cap, cur, hv, hb, hg, q1, q2, q3, q4⟩
    · cases h0
    · injection hv with e1 e2 e3
      injection e1 with e1
      injection e1 with e1
      subst e1 e3
      obtain ⟨cs', hcs, hsz, _⟩ := block_sortWorldK FA.enc 5 w g 0 n d' os hg
      have hH := holdsK_sortWorldK_c FA.enc 5 w g 0 d d' n os hHold hgl (by omega)
      refine ⟨⟨by rw [cellsF_len hl2], .inr ⟨g, c, cs', rfl, hb, hcs, by omega, q2, by omega, ?_⟩⟩, hl2, fun i hi => ?_⟩
      · rw [← flat_cells]
        apply List.ext_getElem?
        intro t
        by_cases ht : t < d'.size * 5
        · have ht' : t < (flatK FA.enc 5 d').size := by simp [flatK]; omega
          have h1 := (hH t ht').1
          rw [Nat.zero_add] at h1
          have h2 : cs'[t]? = some (id (flatK FA.enc 5 d')[t]!) := by
            have := h1
            unfold World.cell? at this
            rw [hcs] at this
            simpa using this
          rw [List.getElem?_take_of_lt (by omega), Array.getElem?_toList, h2, Array.getElem?_toList, Array.getElem?_eq_getElem ht', getElem!_pos (flatK FA.enc 5 d') t ht']
          rfl
        · rw [List.getElem?_eq_none (by rw [List.length_take]; omega), List.getElem?_eq_none (by simp [flatK]; omega)]
      · have hi' : i < d'.size := by omega
        rw [(gsOf_at d' hi').1, (gsOf_at d' hi').2]
        have hk : Keeps D w (sortWorldK FA.enc 5 w g 0 n d' os) := (sortWorldK_chg FA.enc 5 w g 0 n d' os).keeps fun k _ hk hv => (hDk k hk).2 hv
        exact ((d'[i]!).2.1.keep hk).mono fun k hk' _ => ⟨⟨(hDk k hk').1.1, (hDk k hk').1.2.of_eq (hk.block k hk' (hDk k hk').1.2.lt)⟩, fun e => by injection e with e; exact (hDk k hk').2 e.symm⟩
theorem sortfunc_nil (p : Option Addr) (c : Nat) (fv : Value) (w : World) : Calls Tryd.prog 83 #[.slice p 0 c, fv] w fun e w' => e = .returned (.tuple #[]) ∧ w' = w := by
  have := AnyF.slices_SortFunc_none sortFuncA p c fv w
  exact this
end Go.Proofs.YthdidjmmhhchmaaDoor
set_option linter.unusedVariables false
set_option linter.unusedSimpArgs false
namespace Go.Proofs.YthdidjmmhhchmaaDoor
open Go.RowKit Go.Shelf
attribute [local go_sem] cell_alloc_old buildF_0

set_option maxRecDepth 100000 in
set_option maxHeartbeats 2000000 in
theorem negated_any {D : Dom} (f : Fm) (v : Value) (w : World) (h : RdF3 w D v f) (h4 : f.op = 4 → 0 < f.args.length) :
    Calls Tryd.prog 74 #[v] w fun e w' => ∃ kv, e = .returned (.tuple #[kv, .bool (decide (f.op = 4))]) ∧ Bel w w' ∧ RdF3 w' (fun k => D k ∧ k < w.heap.size) kv (if f.op = 4 then f.args.getD 0 default else zeroF) := by
  obtain ⟨A, c, rfl, ha⟩ := h
  have HA := hid (ha.mono (E := fun k => D k ∧ k < w.heap.size) fun k hk hl => ⟨hk, hl⟩)
  clear ha
  go_enter Tryd.func74, Tryd.ntmps74
  go_upto_region 1 with (fail)
  refine wp_gen fun W hW => ?_
  have HB := hid (show Bel w W by rw [hW]; exact ((Bel.refl w).alloc _).alloc _)
  have HE := hid (show Box5 W w.heap.size f A c by
    show W.heap[w.heap.size]? = _
    rw [hW, at_old _ _ _ (by simp)]; exact at_new _ _ _ rfl)
  have HR := hid (show OB W (w.heap.size + 1) 0 ⟨#[]⟩ 0 0 none 0 0 by rw [hW]; exact at_new _ _ _ (by simp))
  have HAW := hid (HA.out.keep (Keeps.of_below HB.out.below fun _ h => h.2))
  obtain ⟨x0, x1, x2, x3, x4, xl⟩ := HE.out.cells
  obtain ⟨r0, r1, r2, r3, r4, rl⟩ := HR.out.cells
  have p0 := HR.out.free 0
  have p1 := HR.out.free 1
  have p2 := HR.out.free 2
  have p3 := HR.out.free 3
  have p4 := HR.out.free 4
  clear hW
  by_cases hq : f.op = 4
  · have hpos := h4 hq
    obtain ⟨b1, o1, A1, c1, g, rfl, hx, hg⟩ := HAW.out.get hpos
    rw [Nat.zero_mul, Nat.add_zero] at hg
    have HX := hid hx.out
    have HGA := hid hg.args
    obtain ⟨q1, q2, c0, cc1, cc2, cc3, c4, q3⟩ := hg
    have hne : (f.op != 4) = false := bne_false_of hq
    have hpi : (0 : Int) < f.args.length := by omega
    have HQ := hid hq
    have hb1 : ¬ b1 = w.heap.size + 1 := by have := q1.2; omega
    have hb1' : ¬ w.heap.size + 1 = b1 := fun e => hb1 e.symm
    clear hx q3 hq h4
    go_wp2_with fail
    refine bodyPost_gen fun WE hWE => ?_
    have hoE : OB WE (w.heap.size + 1) g.op g.name g.val g.bound A1 g.args.length c1 := by rw [hWE]; exact set5_OB HR.out
    have hbE : Bel w WE := by rw [hWE]; exact ((((HB.out.set _ (by simp) _).set _ (by simp) _).set _ (by simp) _).set _ (by simp) _).set _ (by simp) _
    have hcE : Chg (fun x => x = w.heap.size + 1) W WE := by rw [hWE]; exact set5_chg0 _ _ _ _ _ _ _
    have hga := HGA.out.keep (hcE.keeps fun k _ hk hv => by have := hk.2; omega)
    obtain ⟨y0, y1, y2, y3, y4, yl⟩ := hoE.cells
    clear hWE r0 r1 r2 r3 r4 p0 p1 p2 p3 p4
    refine bodyPost_ret (v := .tuple #[.agg #[.int .i64 g.op, .string g.name, .int .i64 g.val, .int .i64 g.bound, .slice A1 g.args.length c1], .bool true]) (by simp [results, Tryd.results74, go_sem, y0, y1, y2, y3, y4]) rfl ⟨_, rfl, hbE, ?_⟩
    have hx0 : f.args[0] = g := by have := HX.out; simpa [List.getD, hpos] using this
    rw [hx0]
    exact ⟨A1, c1, rfl, hga⟩
  · have hne : (f.op != 4) = true := bne_true_of hq
    have HQ := hid hq
    clear hq h4
    go_wp2_with fail
    refine bodyPost_gen fun WE hWE => ?_
    have hoE : OB WE (w.heap.size + 1) 0 ⟨#[]⟩ 0 0 none 0 0 := by rw [hWE]; exact set5_OB HR.out
    have hbE : Bel w WE := by rw [hWE]; exact ((((HB.out.set _ (by simp) _).set _ (by simp) _).set _ (by simp) _).set _ (by simp) _).set _ (by simp) _
    obtain ⟨y0, y1, y2, y3, y4, yl⟩ := hoE.cells
    clear hWE r0 r1 r2 r3 r4 p0 p1 p2 p3 p4
    refine bodyPost_ret (v := .tuple #[.agg #[.int .i64 0, .string ⟨#[]⟩, .int .i64 0, .int .i64 0, .slice none 0 0], .bool false]) (by simp [results, Tryd.results74, go_sem, y0, y1, y2, y3, y4]) rfl ⟨_, rfl, hbE, ?_⟩
    exact ⟨none, 0, rfl, RdA.nil _ _ _ (by omega)⟩
theorem clip_any (A : Option Addr) (n c : Nat) (w : World) (hn : n ≤ c) (hc : c ≤ 9223372036854775807) :
    Calls Tryd.prog 75 #[.slice A n c] w fun e w' => e = .returned (.slice A n n) ∧ w' = w := by
  have h1 : ¬ ((n : Int) < 0) := by omega
  have h2 : ¬ ((c : Int) < n) := by omega
  have hf := Tryd.underlying22
  have hsz := Tryd.sizeOf24
  have hs : ∀ W : World, (Instr.slice 22 (.slice A n c) none (some (.int .i64 (n : Int))) (some (.int .i64 (n : Int)))).run Tryd.prog W = .ok (.slice A n n) W := fun W => by
    cases A with
    | none => simp [Instr.slice, run_underlying hf, hsz, Instr.sliceBounds, Instr.sliceBound, asIntOf, go_sem, h1, h2, hn]
    | some a => simp [Instr.slice, run_underlying hf, hsz, Instr.sliceBounds, Instr.sliceBound, asIntOf, go_sem, h1, h2, hn, Addr.add]
  go_enter Tryd.func75, Tryd.ntmps75
  go_wp2_with fail
  go_ret
  exact ⟨rfl, rfl⟩
/-- Are two elements the same? -/
theorem eqf_any {D E : Dom} (f g : Fm) (v v2 : Value) (cb : Nat) (w : World) (h : RdF3 w D v f) (h2 : RdF3 w E v2 g) (hz : f.size ≤ 1000000) (hcl : (∀ b, D b → Cl w b) ∨ (∀ b, E b → Cl w b))
    (hc : w.cell? ⟨cb, 0, none⟩ = some (.func (.func 8) #[] #[])) :
    Calls Tryd.prog 85 #[v, v2, .pointer (some ⟨cb, 0, none⟩)] w fun e w' => e = .returned (.bool (f.cmp g == 0)) ∧ Bel w w' := by
  obtain ⟨A, c, rfl, ha⟩ := h
  obtain ⟨A2, c2, rfl, ha2⟩ := h2
  have HA := hid (ha.mono (E := fun k => D k ∧ k < w.heap.size) fun k hk hl => ⟨hk, hl⟩)
  have HA2 := hid (ha2.mono (E := fun k => E k ∧ k < w.heap.size) fun k hk hl => ⟨hk, hl⟩)
  have hcb := World.block_lt_of_cell? w _ hc
  have eg : ∀ args W, (callFunc 8 args).run Tryd.prog W = .ok (.enter 8 args) W := enters_of Tryd.func8 (by kernel_rfl) rfl
  clear ha ha2
  go_enter Tryd.func85, Tryd.ntmps85
  go_upto_region 1 with (fail)
  refine wp_gen fun W hW => ?_
  have HB := hid (show Bel w W by rw [hW]; exact ((Bel.refl w).alloc _).alloc _)
  have HE := hid (show Box5 W w.heap.size f A c by
    show W.heap[w.heap.size]? = _
    rw [hW, at_old _ _ _ (by simp)]; exact at_new _ _ _ rfl)
  have HE2 := hid (show Box5 W (w.heap.size + 1) g A2 c2 by
    show W.heap[w.heap.size + 1]? = _
    rw [hW]; exact at_new _ _ _ (by simp))
  obtain ⟨x0, x1, x2, x3, x4, xl⟩ := HE.out.cells
  obtain ⟨z0, z1, z2, z3, z4, zl⟩ := HE2.out.cells
  have hcW : W.cell? ⟨cb, 0, none⟩ = some (.func (.func 8) #[] #[]) := (HB.out.below.cell (p := ⟨cb, 0, none⟩) hcb).trans hc
  have HCMP := hid (compare_any f g _ _ W (RdF3.cells5 (HA.out.keep (Keeps.of_below HB.out.below fun _ h => h.2))) (RdF3.cells5 (HA2.out.keep (Keeps.of_below HB.out.below fun _ h => h.2))) hz (by
    rcases hcl with h | h
    · exact .inl fun k hk => (h k hk.1).of_eq (HB.out.below.block k hk.2)
    · exact .inr fun k hk => (h k hk.1).of_eq (HB.out.below.block k hk.2)))
  clear hW hcl hc
  go_wp2_with (first | (go_at_call 8; refine HCMP.out.mono ?_; rintro e W9 ⟨rfl, hb9⟩))
  go_ret
  exact ⟨rfl, HB.out.trans hb9⟩
end Go.Proofs.YthdidjmmhhchmaaDoor
