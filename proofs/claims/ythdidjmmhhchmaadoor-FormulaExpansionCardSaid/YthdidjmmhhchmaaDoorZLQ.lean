/-
  For all arguments, the law FormulaExpansion returns true, and its arguments read afterwards as before. No condition.
-/
import Derived.Test.YthdidjmmhhchmaaDoorZLK
import Derived.Test.YthdidjmmhhchmaaDoorZLP
set_option linter.unusedVariables false
set_option linter.unusedSimpArgs false
namespace Go.Proofs.YthdidjmmhhchmaaDoor
open Go.ChangeShapes Go.WideShapes Go.ChangeAt Go.RowKit Go.Deep

theorem door_met (os : Os) (args : Array Value) : laidMetH Tryd.prog Rows.formulaExpansionRow.laid ((World.doorLaid Tryd.prog 38 os).forCall (fun _ _ => 0) ⟨#[], args, []⟩).memory :=
  laidMetH_of_parts3 (fuel := 8) (laidMet_of_run' 8 (by kernel_rfl) (by kernel_rfl)) (by kernel_rfl) (by kernel_rfl)
set_option maxRecDepth 100000 in
theorem law03E_lifted (os : Os) (started : os.Started) (H : Type) (enc : TypeId × Value → H) :
    ReturnsInHanded {} Tryd.checked os 5 .any (fun w args => (Rows.formulaExpansionSpec.pre enc Tryd.prog Tryd.f5 [] false w args ∧ laidMetH Tryd.prog Rows.formulaExpansionRow.laid w) ∧ sizedMet enc Tryd.prog Tryd.f5 (OpenSpec.ofChange Rows.formulaExpansionSpec) false w args)
      (Rows.formulaExpansionSpec.post enc Tryd.prog Tryd.f5 false true false false) := by
  refine returnsInHanded_of_change_and (C := Tryd.checked) (X := fun w _ => laidMetH Tryd.prog Rows.formulaExpansionRow.laid w) (fun _ _ _ hh h => h.of_heap hh) own_none started (by kernel_rfl) Tryd.func5
    (ChangeSpec.witness_shaped (enc := enc) (C := Tryd.checked) (os := os) (X := fun w _ => laidMetH Tryd.prog Rows.formulaExpansionRow.laid w) false (World.doorLaid Tryd.prog 38 os) #[.agg #[.int .i64 0, .string ⟨#[]⟩, .int .i64 0, .int .i64 0, .slice none 0 0], .agg #[.int .i64 0, .string ⟨#[]⟩, .int .i64 0, .int .i64 0, .slice none 0 0], .int .u8 0] 8 rfl (World.shaped_of_RefB (by kernel_rfl) (by kernel_rfl)) (by kernel_rfl) (by kernel_rfl) (by kernel_rfl) (door_met os _)) ?_
  intro W base args ds gs before hval0 hW _ hsz0 hL _
  have hsz : (DataW.weightsEach Tryd.prog (Tryd.f5.params.toList ++ Rows.formulaExpansionSpec.plain.varTypes Tryd.prog) (ds ++ gs)).all (· ≤ reachBytes) = true := hsz0
  clear hsz0
  have hval : ∀ (j : Nat) t v, Tryd.f5.params[j]? = some t → args[j]? = some v → Value.okWide Tryd.prog W .any base t v := hval0
  have hW' := hW
  obtain ⟨p, q, hA0, hV, rfl, _, _⟩ := hW
  have hA : DataW.TrodAll enc Tryd.prog W 0 (fun _ => true) true Tryd.f5.params.toList args.toList ds p := hA0
  rw [Tryd.params5] at hA hval hsz
  obtain ⟨v0, v1, v2, d0, d1, d2, p0, p1, p2, rfl, rfl, rfl, h0, h1, h2⟩ := trodAll_three hA
  obtain ⟨rfl, rfl⟩ := trodVars_none hV
  clear hA0 hval0
  simp only [List.append_nil] at hW' hsz
  have hlt : ∀ x ∈ p0 ++ p1 ++ p2, x.block < W.heap.size := fun x hx => by simpa using hW'.lt x hx
  obtain ⟨f, hf⟩ := open_F (hval 0 _ v0 rfl rfl) h0 (light_at hsz (j := 0) rfl rfl)
  obtain ⟨g, hg⟩ := open_F (hval 1 _ v1 rfl rfl) h1 (light_at hsz (j := 1) rfl rfl)
  obtain ⟨x, rfl, rfl, rfl, wx⟩ := open_int Tryd.underlying5 (hval 2 _ v2 rfl rfl) h2
  have hx : 0 ≤ x ∧ x ≤ 255 := by
    have wy := wx
    simp [Lit.wf, IntKind.min, IntKind.max, IntKind.signed, IntKind.bits] at wy
    omega
  obtain ⟨hG, hK⟩ := of_laid hL
  refine (expansion_any f g v0 v1 x W hf hg hx.1 hx.2 hG hK).mono fun e W' ⟨he, hb⟩ => ⟨_, he, ?_⟩
  refine post_of_below (pa := (p0 ++ (p1 ++ ([] ++ [])))) (pv := []) hW' (fun _ _ _ => trodAll_mk1 (shut_bool Tryd.underlying4 true)) (fun sp hsp => ?_) (fun _ _ => rfl) (by simp) hb (ok_one (by kernel_rfl) rfl (okWide_bool_mk Tryd.underlying4 true))
  have hs : ∀ x ∈ (p0 ++ (p1 ++ [])), sp x.block = true := fun x hx => hsp x (by simpa using hx)
  refine trodAll_mk3 (reads_again laid_out (by kernel_rfl) (of_decide_eq_true (by kernel_rfl)) h0 hb (fun x hx => hlt x (by simp [hx])) (fun x hx => hs x (by simp [hx]))) (reads_again laid_out (by kernel_rfl) (of_decide_eq_true (by kernel_rfl)) h1 hb (fun x hx => hlt x (by simp [hx])) (fun x hx => hs x (by simp [hx]))) ?_
  exact (shut_int Tryd.underlying5 wx)
theorem law03E_holds : Rows.FormulaExpansionSaid :=
  OpenClaim.holds_of_wide 5 Tryd.f5 rfl rfl rfl rfl rfl rfl rfl ⟨rfl, rfl, rfl, rfl, rfl⟩ rfl rfl rfl rfl rfl (by kernel_rfl) Tryd.func5 (by kernel_rfl)
    (of_decide_eq_true (by kernel_rfl)) (by unfold Func.isWrapper; first | (rw [if_pos (by decide +kernel)]; kernel_rfl) | (rw [if_neg (by decide +kernel)]; exact ⟨rfl, rfl⟩))
    (fun os started H enc _ => law03E_lifted os started H enc)
end Go.Proofs.YthdidjmmhhchmaaDoor
