/-
  For all arguments, the law TypingSignals returns true, and its arguments read afterwards as before: the row, and its tied card. No condition.
-/
import Derived.Test.YtdakdpfofgkjoaaDoorCards
import Derived.Test.YtdakdpfofgkjoaaDoorTie
import Derived.SevenTiedAt
import Derived.Test.YtdakdpfofgkjoaaDoorZXL
import Derived.Test.YtdakdpfofgkjoaaDoorZ39
set_option linter.unusedVariables false
set_option linter.unusedSimpArgs false
namespace Go.Proofs.YtdakdpfofgkjoaaDoor
open Go Go.ChangeShapes Go.WideShapes Go.ChangeAt Go.RowKit Go.Deep

section
variable {H : Type} {enc : TypeId × Value → H} {P : Program} {w : World} {base : Nat} {spare : Nat → Bool} {held : Bool} {t t1 t2 t3 : TypeId}
theorem trodAll_four {args : Array Value} {ds : List (DataW H)} {ps : List MemPlace} (h : DataW.TrodAll enc P w base spare held [t, t1, t2, t3] args.toList ds ps) :
    ∃ v v1 v2 v3 d d1 d2 d3 p p1 p2 p3, args = #[v, v1, v2, v3] ∧ ds = [d, d1, d2, d3] ∧ ps = p ++ p1 ++ p2 ++ p3 ∧ DataW.Trod enc P w base spare held t v d p ∧ DataW.Trod enc P w base spare held t1 v1 d1 p1 ∧ DataW.Trod enc P w base spare held t2 v2 d2 p2 ∧ DataW.Trod enc P w base spare held t3 v3 d3 p3 := by
  obtain ⟨v, vs, d, es, p, q, hargs, rfl, rfl, hd, hrest⟩ := trodAll_cons h
  obtain ⟨v1, vs1, d1, es1, p1, q1, rfl, rfl, rfl, hd1, hrest1⟩ := trodAll_cons hrest
  obtain ⟨v2, vs2, d2, es2, p2, q2, rfl, rfl, rfl, hd2, hrest2⟩ := trodAll_cons hrest1
  obtain ⟨v3, vs3, d3, es3, p3, q3, rfl, rfl, rfl, hd3, hrest3⟩ := trodAll_cons hrest2
  obtain ⟨rfl, rfl, rfl⟩ := trodAll_nil hrest3
  exact ⟨v, v1, v2, v3, d, d1, d2, d3, p, p1, p2, p3, by cases args; simp_all, rfl, by simp, hd, hd1, hd2, hd3⟩
theorem trodAll_mk4 {v v1 v2 v3 : Value} {d d1 d2 d3 : DataW H} {p p1 p2 p3 : List MemPlace} (h : DataW.Trod enc P w base spare held t v d p) (h1 : DataW.Trod enc P w base spare held t1 v1 d1 p1) (h2 : DataW.Trod enc P w base spare held t2 v2 d2 p2) (h3 : DataW.Trod enc P w base spare held t3 v3 d3 p3) :
    DataW.TrodAll enc P w base spare held [t, t1, t2, t3] [v, v1, v2, v3] [d, d1, d2, d3] (p ++ (p1 ++ (p2 ++ p3))) := ⟨p, p1 ++ (p2 ++ p3), h, trodAll_mk3 h1 h2 h3, rfl⟩
end
theorem typingSignals_met (os : Os) (args : Array Value) : laidMetH Tryd.prog Rows.typingSignalsRow.laid ((World.doorLaid Tryd.prog 38 os).forCall (fun _ _ => 0) ⟨#[], args, []⟩).memory :=
  laidMetH_of_parts3 (fuel := 8) (laidMet_of_run' 8 (by kernel_rfl) (by kernel_rfl)) (by kernel_rfl) (by kernel_rfl)
set_option maxRecDepth 100000 in
theorem typingSignals_lifted (os : Os) (started : os.Started) (H : Type) (enc : TypeId × Value → H) :
    ReturnsInHanded {} Tryd.checked os 3 .any (fun w args => (Rows.typingSignalsSpec.pre enc Tryd.prog Tryd.f3 [] false w args ∧ laidMetH Tryd.prog Rows.typingSignalsRow.laid w) ∧ sizedMet enc Tryd.prog Tryd.f3 (OpenSpec.ofChange Rows.typingSignalsSpec) false w args)
      (Rows.typingSignalsSpec.post enc Tryd.prog Tryd.f3 false true false false) := by
  refine returnsInHanded_of_change_and (C := Tryd.checked) (X := fun w _ => laidMetH Tryd.prog Rows.typingSignalsRow.laid w) (fun _ _ _ hh h => h.of_heap hh) own_none started (by kernel_rfl) Tryd.func3
    (ChangeSpec.witness_shaped (enc := enc) (C := Tryd.checked) (os := os) (X := fun w _ => laidMetH Tryd.prog Rows.typingSignalsRow.laid w) false (World.doorLaid Tryd.prog 38 os) #[.slice none 0 0, .agg #[.int .i64 0, .string ⟨#[]⟩, .int .i64 0, .int .i64 0, .slice none 0 0], .agg #[.string ⟨#[]⟩, .bool false, .int .i64 0], .int .u8 0] 8 rfl (World.shaped_of_RefB (by kernel_rfl) (by kernel_rfl)) (by kernel_rfl) (by kernel_rfl) (by kernel_rfl) (typingSignals_met os _)) ?_
  intro W base args ds gs before hval0 hW _ hsz0 hL _
  have hsz : (DataW.weightsEach Tryd.prog (Tryd.f3.params.toList ++ Rows.typingSignalsSpec.plain.varTypes Tryd.prog) (ds ++ gs)).all (· ≤ reachBytes) = true := hsz0
  clear hsz0
  have hval : ∀ (j : Nat) t v, Tryd.f3.params[j]? = some t → args[j]? = some v → Value.okWide Tryd.prog W .any base t v := hval0
  have hW' := hW
  obtain ⟨p, q, hA0, hV, rfl, _, _⟩ := hW
  have hA : DataW.TrodAll enc Tryd.prog W 0 (fun _ => true) true Tryd.f3.params.toList args.toList ds p := hA0
  rw [Tryd.params3] at hA hval hsz
  obtain ⟨v0, v1, v2, v3, d0, d1, d2, d3, p0, p1, p2, p3, rfl, rfl, rfl, h0, h1, h2, h3⟩ := trodAll_four hA
  obtain ⟨rfl, rfl⟩ := trodVars_none hV
  clear hA0 hval0
  simp only [List.append_nil] at hW' hsz
  have hlt : ∀ x ∈ p0 ++ p1 ++ p2 ++ p3, x.block < W.heap.size := fun x hx => by simpa using hW'.lt x hx
  obtain ⟨aG, nG, eG, hvG⟩ := okWide_slice Tryd.underlying22 (hval 0 _ v0 rfl rfl)
  obtain ⟨AS, cS, l, rfl, hl⟩ := open_GT (by rw [hvG]; rfl) h0 (light_at hsz (j := 0) rfl rfl)
  clear hvG
  obtain ⟨f, hf⟩ := open_F (hval 1 _ v1 rfl rfl) h1 (light_at hsz (j := 1) rfl rfl)
  obtain ⟨s, rfl⟩ := open_G1 (hval 2 _ v2 rfl rfl) h2
  obtain ⟨x, rfl, rfl, rfl, wx⟩ := open_int Tryd.underlying5 (hval 3 _ v3 rfl rfl) h3
  have hx : 0 ≤ x ∧ x ≤ 255 := by
    have wy := wx
    simp [Lit.wf, IntKind.min, IntKind.max, IntKind.signed, IntKind.bits] at wy
    omega
  obtain ⟨hG, hK⟩ := of_laid hL
  refine (signals_any l f s x AS l.length cS v1 W rfl hl hf hx.1 hx.2 hG hK).mono fun e W' ⟨he, hb⟩ => ⟨_, he, ?_⟩
  refine post_of_below (pa := (p0 ++ (p1 ++ (p2 ++ [])))) (pv := []) hW' (fun _ _ _ => trodAll_mk1 (shut_bool Tryd.underlying4 true)) (fun sp hsp => ?_) (fun _ _ => rfl) (by simp) hb (ok_one (by kernel_rfl) rfl (okWide_bool_mk Tryd.underlying4 true))
  have hs : ∀ x ∈ (p0 ++ (p1 ++ (p2 ++ []))), sp x.block = true := fun x hx => hsp x (by simpa using hx)
  exact trodAll_mk4 (reads_again laid_out (by kernel_rfl) (of_decide_eq_true (by kernel_rfl)) h0 hb (fun x hx => hlt x (by simp [hx])) (fun x hx => hs x (by simp [hx]))) (reads_again laid_out (by kernel_rfl) (of_decide_eq_true (by kernel_rfl)) h1 hb (fun x hx => hlt x (by simp [hx])) (fun x hx => hs x (by simp [hx]))) (reads_again laid_out (by kernel_rfl) (of_decide_eq_true (by kernel_rfl)) h2 hb (fun x hx => hlt x (by simp [hx])) (fun x hx => hs x (by simp [hx]))) (shut_int Tryd.underlying5 wx)
theorem typingSignals_holds : Rows.TypingSignalsSaid :=
  OpenClaim.holds_of_wide 3 Tryd.f3 rfl rfl rfl rfl rfl rfl rfl ⟨rfl, rfl, rfl, rfl, rfl⟩ rfl rfl rfl rfl rfl (by kernel_rfl) Tryd.func3 (by kernel_rfl)
    (of_decide_eq_true (by kernel_rfl)) (by unfold Func.isWrapper; first | (rw [if_pos (by decide +kernel)]; kernel_rfl) | (rw [if_neg (by decide +kernel)]; exact ⟨rfl, rfl⟩))
    (fun os started H enc _ => typingSignals_lifted os started H enc)
theorem typingSignals_card : Rows.TypingSignalsCardSaid :=
  Claim7.holds_tied_plain_at .later [] [.data, .data] true (true, "4cc6de46171b91d65c74ea11a936c8680b45ae91a2cb02d705513314f0f56233") false
    typingSignals_holds (fun _ h => by cases h) (by kernel_rfl) (fun _ h => by cases h) typingSignals_row_tie rfl ⟨rfl, rfl⟩ (by kernel_rfl) rfl
    (fun f fn hf hfn => by
      obtain rfl : f = 3 := Option.some.inj ((show Tryd.prog.funcNamed "foresight/foresightlaw07.TypingSignals" = some 3 by kernel_rfl).symm.trans hf) |>.symm
      obtain rfl : fn = Tryd.f3 := (Option.some.inj (Tryd.func3.symm.trans hfn)).symm
      exact ⟨by kernel_rfl, fun j t ht => by
        rw [Tryd.params3] at ht
        have hm : t ∈ [22, 25, 27, 5] := by simpa using Array.mem_of_getElem? ht
        have hall : ([22, 25, 27, 5].all fun u => !Tryd.prog.wantsStandIn u) = true := by kernel_rfl
        exact (show Tryd.prog.wantsStandIn t = false by simpa using List.all_eq_true.1 hall t hm)⟩)
    (by kernel_rfl)
end Go.Proofs.YtdakdpfofgkjoaaDoor
