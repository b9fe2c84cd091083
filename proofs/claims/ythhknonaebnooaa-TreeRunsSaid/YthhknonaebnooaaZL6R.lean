/-
  For all arguments, the law TreeRuns returns true, and its arguments read afterwards as before. No condition.
-/
import Derived.Test.YthhknonaebnooaaRows
import Derived.Test.YthhknonaebnooaaZ21
import Derived.Test.YthhknonaebnooaaZ14
set_option linter.unusedVariables false
set_option linter.unusedSimpArgs false
namespace Go.Proofs.Ythhknonaebnooaa
open Go.ChangeShapes Go.WideShapes Go.ChangeAt Go.RowKit

set_option maxRecDepth 100000 in
theorem law16R_lifted (os : Os) (started : os.Started) (H : Type) (enc : TypeId × Value → H) :
    ReturnsInHanded {} Try.checked os 6 .any (Rows.treeRunsSpec.pre6 enc Try.prog Try.f6 Rows.treeRunsRow.domain false) (Rows.treeRunsSpec.post enc Try.prog Try.f6 false true false false) := by
  refine returnsInHanded_of_change_sized (C := Try.checked) Try.own started (by kernel_rfl) Try.func6
    (ChangeSpec.witness6 (enc := enc) (C := Try.checked) false ⟨#[], #[.agg #[.int .i64 0, .slice none 0 0, .slice none 0 0], .slice none 0 0], []⟩ 8 (by kernel_rfl) (by kernel_rfl) (by kernel_rfl) (by kernel_rfl)) ?_
  intro W base args ds gs before hval0 hW _ hsz0 _
  have hsz : (DataW.weightsEach Try.prog (Try.f6.params.toList ++ Rows.treeRunsSpec.plain.varTypes Try.prog) (ds ++ gs)).all (· ≤ reachBytes) = true := hsz0
  clear hsz0
  have hval : ∀ (j : Nat) t v, Try.f6.params[j]? = some t → args[j]? = some v → Value.okWide Try.prog W .any base t v := hval0
  have hW' := hW
  obtain ⟨p, q, hA0, hV, rfl, _, _⟩ := hW
  have hA : DataW.TrodAll enc Try.prog W 0 (fun _ => true) true Try.f6.params.toList args.toList ds p := hA0
  rw [Try.params6] at hA hval hsz
  obtain ⟨v0, v1, d0, d1, p0, p1, rfl, rfl, rfl, h0, h1⟩ := trodAll_two hA
  obtain ⟨rfl, rfl⟩ := trodVars_none hV
  clear hA0 hval0
  simp only [List.append_nil] at hW' hsz
  have hlt : ∀ x ∈ p0 ++ p1, x.block < W.heap.size := fun x hx => by simpa using hW'.lt x hx
  obtain ⟨b0, r0⟩ := open_U (hval 0 _ v0 rfl rfl) h0 (light_at hsz (j := 0) rfl rfl)
  obtain ⟨a1, l1, e1, hv1⟩ := okWide_slice Try.underlying22 (hval 1 _ v1 rfl rfl)
  obtain ⟨A1, e1', x1, rfl, r1⟩ := open_IT (by rw [hv1]; rfl) h1 (light_at hsz (j := 1) rfl rfl)
  refine (runs_any v0 b0 A1 e1' x1 W r0 r1).mono fun e W' ⟨he, hb⟩ => ⟨_, he, ?_⟩
  refine post_of_below (pa := (p0 ++ p1)) (pv := []) hW' (fun _ _ _ => trodAll_mk1 (shut_bool Try.underlying4 true)) (fun sp hsp => ?_) (fun _ _ => rfl) (by simp) hb (ok_one (by kernel_rfl) rfl (okWide_bool_mk Try.underlying4 true))
  have hs : ∀ x ∈ (p0 ++ p1), sp x.block = true := fun x hx => hsp x (by simpa using hx)
  refine trodAll_mk2 (reads_again Try.laidOut (by kernel_rfl) (of_decide_eq_true (by kernel_rfl)) h0 hb (fun x hx => hlt x (by simp [hx])) (fun x hx => hs x (by simp [hx]))) (reads_again Try.laidOut (by kernel_rfl) (of_decide_eq_true (by kernel_rfl)) h1 hb (fun x hx => hlt x (by simp [hx])) (fun x hx => hs x (by simp [hx])))

theorem law16R_holds : Rows.TreeRunsSaid :=
  OpenClaim.holds_of_wide 6 Try.f6 rfl rfl rfl rfl rfl rfl rfl ⟨rfl, rfl, rfl, rfl, rfl⟩ rfl rfl rfl rfl rfl (by kernel_rfl) Try.func6 (by kernel_rfl)
    (of_decide_eq_true (by kernel_rfl)) (by unfold Func.isWrapper; first | (rw [if_pos (by decide +kernel)]; kernel_rfl) | (rw [if_neg (by decide +kernel)]; exact ⟨rfl, rfl⟩))
    (fun os started H enc _ => law16R_lifted os started H enc)
end Go.Proofs.Ythhknonaebnooaa
