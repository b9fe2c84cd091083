/-
  The plain laws of FormulaKernels and FormulaNegation; loose and well-formed formulas in the reference's words.
-/
import Derived.Test.YtahgbgniaiccbaaGreatDoorZKA
import Derived.Test.YtahgbgniaiccbaaGreatDoorZ21
import Derived.Test.YtahgbgniaiccbaaGreatDoorZ26
set_option linter.unusedVariables false
set_option linter.unusedSimpArgs false
namespace Go.Proofs.YtahgbgniaiccbaaGreatDoor

theorem looseB_ref (f : Fm) : looseB f = (decide (f.size ≤ 400) && decide (f.depth ≤ 60) && nodesA f && coreA f && layL f) := by
  rw [Bool.eq_iff_iff]
  unfold looseB layL
  simp only [Bool.and_eq_true, decide_eq_true_eq]
  rw [fits_true, allB_iff, coreA_split, allB_iff]
  constructor
  · rintro ⟨⟨a, b⟩, c, d, e⟩; exact ⟨⟨⟨⟨by omega, by omega⟩, c⟩, d⟩, e⟩
  · rintro ⟨⟨⟨⟨a, b⟩, c⟩, d⟩, e⟩; exact ⟨⟨by omega, by omega⟩, c, d, e⟩
theorem validB_ref (f : Fm) : validB f = (decide (f.size ≤ 60) && decide (f.depth ≤ 20) && nodesA f) := by
  rw [Bool.eq_iff_iff]
  unfold validB nodesA
  simp only [Bool.and_eq_true, decide_eq_true_eq]
  rw [fits_true]
  constructor
  · rintro ⟨⟨a, b⟩, c⟩; exact ⟨⟨by omega, by omega⟩, c⟩
  · rintro ⟨⟨a, b⟩, c⟩; exact ⟨⟨by omega, by omega⟩, c⟩
theorem kern_law {f : Fm} (hv : validB f = true) (hl : layB f = true) :
    (∃ k, kernZ f = (k, 0) ∧ kernZ k = (k, 0) ∧ kernelB k = true ∧ namesF f = namesF k ∧ (kernelB f = true → k = f)) ∨ (kernZ f = (zeroF, 2) ∧ kernelB f = false) := by
  have hs : allI shpQ false f := by
    unfold validB at hv
    rw [Bool.and_eq_true] at hv
    exact hv.2
  have hself : kernelB f = true → kf false f = f := fun h => by
    unfold kernelB at h
    rw [Bool.and_eq_true] at h
    exact kf_self f _ h.2
  by_cases hf : fitsB (kf false f) 60 20 = true
  · left
    have hb := kf_bare f false hs hl false
    have hk : kernelB (kf false f) = true := by
      unfold kernelB
      rw [hf, Bool.true_and]
      exact hb
    obtain ⟨k1, k2⟩ := kernel_valid hk
    have hkk : kf false (kf false f) = kf false f := kf_self _ _ hb
    refine ⟨kf false f, ?_, ?_, hk, ?_, hself⟩
    · unfold kernZ; rw [hv, hl, Bool.and_self, if_pos rfl, if_pos hf]
    · unfold kernZ
      rw [k1, show layB (kf false f) = true from k2, Bool.and_self, if_pos rfl, hkk, if_pos hf]
    · refine (namesF_asc f).ext (namesF_asc _) fun x => ?_
      rw [namesF_mem, namesF_mem, kf_names f false hs false x]
  · right
    constructor
    · unfold kernZ; rw [hv, hl, Bool.and_self, if_pos rfl, if_neg hf]
    · cases h : kernelB f
      · rfl
      · rw [hself h] at hf
        unfold kernelB at h
        rw [Bool.and_eq_true] at h
        exact absurd h.1 hf
theorem neg_law {f : Fm} (h : looseB f = true) : notZ f = zeroF ∨ notZ (notZ f) = f := by
  by_cases hf : fitsB (kf true f) 400 60 = true
  · right
    have hl := h
    unfold looseB at h
    rw [Bool.and_eq_true] at h
    have hs : allI shpQ false f := allI_imp (fun x hx => by
      unfold bareQ at hx; unfold shpQ
      simp only [Bool.and_eq_true] at hx
      exact hx.1.1.2) h.2
    have hy : allI layQ false f := allI_imp (fun x hx => by
      unfold bareQ at hx; unfold layQ
      simp only [Bool.and_eq_true] at hx
      exact hx.1.2) h.2
    have e : notZ f = kf true f := by unfold notZ; rw [hl, hf, Bool.and_self, if_pos rfl]
    have hb : looseB (kf true f) = true := by
      unfold looseB
      rw [hf, Bool.true_and]
      exact kf_bare f false hs hy true
    have hkk : kf true (kf true f) = f := by
      rw [kf_kf f false hs true]
      exact kf_self f _ h.2
    rw [e]
    unfold notZ
    rw [hb, hkk, h.1, Bool.and_self, if_pos rfl]
  · left
    unfold notZ
    rw [if_neg]
    rw [Bool.and_eq_true]
    exact fun e => hf e.2
/-- The kernel of the negation is the negation of the kernel. -/
theorem neg_kern (f : Fm) : (kernZ f).2 ≠ 0 ∨ (kernZ (opF 4 [f])).2 ≠ 0 ∨ (kernZ (opF 4 [f])).1 = notZ (kernZ f).1 := by
  by_cases h1 : (kernZ f).2 = 0
  · by_cases h2 : (kernZ (opF 4 [f])).2 = 0
    · right; right
      have e2 : kf false (opF 4 [f]) = kf true f := kf_not _ _ _ _ _
      have hout : ∀ g : Fm, (kernZ g).2 = 0 → (validB g = true ∧ layB g = true) ∧ fitsB (kf false g) 60 20 = true ∧ (kernZ g).1 = kf false g := fun g hg => by
        unfold kernZ at hg ⊢
        split at hg
        · rename_i h3
          rw [if_pos h3]
          split at hg
          · rename_i h4
            rw [if_pos h4]
            exact ⟨by simpa using h3, h4, rfl⟩
          · cases hg
        · cases hg
      obtain ⟨⟨a1, a2⟩, a3, a4⟩ := hout f h1
      obtain ⟨_, b3, b4⟩ := hout (opF 4 [f]) h2
      rw [a4, b4, e2]
      rw [e2] at b3
      have hs : allI shpQ false f := by
        unfold validB at a1
        rw [Bool.and_eq_true] at a1
        exact a1.2
      have hl : looseB (kf false f) = true := by
        unfold looseB
        rw [Bool.and_eq_true]
        rw [fits_true] at a3
        exact ⟨by rw [fits_true]; omega, kf_bare f false hs a2 false⟩
      unfold notZ
      rw [hl, kf_kf f false hs false]
      rw [fits_true] at b3
      show _ = if (true && fitsB (kf true f) 400 60) = true then kf true f else zeroF
      rw [if_pos]
      rw [Bool.true_and, fits_true]
      omega
    · exact .inr (.inl h2)
  · exact .inl h1
end Go.Proofs.YtahgbgniaiccbaaGreatDoor
