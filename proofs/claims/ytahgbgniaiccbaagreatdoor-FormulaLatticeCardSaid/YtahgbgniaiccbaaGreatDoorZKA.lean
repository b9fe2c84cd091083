/-
  The reference's tests of formulas, plain: nodes of all arguments, kinds of operators, numbers of arguments.
-/
import Derived.Test.YtahgbgniaiccbaaGreatDoorZ15
set_option linter.unusedVariables false
set_option linter.unusedSimpArgs false
namespace Go.Proofs.YtahgbgniaiccbaaGreatDoor

theorem getD_memK {gs : List Fm} {i : Nat} (hi : i < gs.length) : gs.getD i default ∈ gs := by simp [List.getD, hi]
theorem allI_any {p : Fm → Bool} (f : Fm) : ∀ ins, allI (fun x => p x.1) ins f ↔ allI (fun x => p x.1) false f := by
  induction f using Fm.ind with
  | h f ih =>
    intro ins
    rw [allI_iff, allI_iff]
    exact and_congr_right fun _ => ⟨fun h g hg => (ih g hg _).2 ((ih g hg _).1 (h g hg)), fun h g hg => (ih g hg _).2 ((ih g hg _).1 (h g hg))⟩
theorem all_args {l : List Fm} {P : Fm → Prop} : (∀ g, g ∈ l → P g) ↔ ∀ j, j < l.length → P (l.getD j default) := by
  constructor
  · exact fun h j hj => h _ (getD_memK hj)
  · intro h g hg
    obtain ⟨i, hi, rfl⟩ := List.getElem_of_mem hg
    have := h i hi
    rwa [List.getD_eq_getElem?_getD, List.getElem?_eq_getElem hi] at this
theorem allB_flat (p : Fm → Bool) (f : Fm) : allB (fun x => p x.1) f = (p f && allN f.args.length fun i => allB (fun x => p x.1) (f.args.getD i default)) := by
  rw [Bool.eq_iff_iff, Bool.and_eq_true, allN_true, allB_iff, allI_iff]
  refine and_congr_right fun _ => ?_
  rw [all_args]
  exact ⟨fun h j hj => (allI_any _ _).1 (h j hj), fun h j hj => (allI_any _ _).2 (h j hj)⟩
theorem isOp_not {o : Int} (h : ¬ isOp o = true) : o < 1 ∨ 20 ≤ o := by
  unfold isOp at h
  simp at h
  omega
theorem formZ_not {o : Int} (h : ¬ isOp o = true) : formZ o = form0 := by unfold formZ; rw [if_neg h]
def pastO (o : Int) : Bool := decide (15 ≤ o) && decide (o ≤ 19)
def futO (o : Int) : Bool := decide (8 ≤ o) && decide (o ≤ 14)
def looseO (o : Int) : Bool := (decide (1 ≤ o) && decide (o ≤ 6)) || o == 8 || o == 9 || o == 10 || o == 15 || o == 16 || o == 17
theorem past_O (o : Int) : (formZ o).past = pastO o := by
  by_cases h : isOp o = true
  · rcases isOp_cases h with rfl | rfl | rfl | rfl | rfl | rfl | rfl | rfl | rfl | rfl | rfl | rfl | rfl | rfl | rfl | rfl | rfl | rfl | rfl <;> rfl
  · rw [formZ_not h]
    unfold pastO
    have := isOp_not h
    show false = _
    symm
    simp
    omega
theorem fut_O (o : Int) : (formZ o).future = futO o := by
  by_cases h : isOp o = true
  · rcases isOp_cases h with rfl | rfl | rfl | rfl | rfl | rfl | rfl | rfl | rfl | rfl | rfl | rfl | rfl | rfl | rfl | rfl | rfl | rfl | rfl <;> rfl
  · rw [formZ_not h]
    unfold futO
    have := isOp_not h
    show false = _
    symm
    simp
    omega
theorem loose_O (o : Int) : (formZ o).loose = looseO o := by
  by_cases h : isOp o = true
  · rcases isOp_cases h with rfl | rfl | rfl | rfl | rfl | rfl | rfl | rfl | rfl | rfl | rfl | rfl | rfl | rfl | rfl | rfl | rfl | rfl | rfl <;> rfl
  · rw [formZ_not h]
    unfold looseO
    have := isOp_not h
    show false = _
    symm
    simp
    omega
def pastP (f : Fm) : Bool := !futO f.op
def coreP (f : Fm) : Bool := looseO f.op && notQ f
def pastA (f : Fm) : Bool := allB (fun x => pastP x.1) f
def nodesA (f : Fm) : Bool := allB (fun x => shapedB x.1) f
def coreA (f : Fm) : Bool := allB (fun x => coreP x.1) f
theorem pastA_eq (f : Fm) : pastA f = allB pastQ f := by
  unfold pastA
  congr 1
  funext x
  unfold pastP pastQ
  rw [fut_O]
/-- Within a past operator a layered formula is past. -/
theorem lay_in (f : Fm) : allI layQ true f ↔ pastA f = true := by
  induction f using Fm.ind with
  | h f ih =>
    rw [allI_iff]
    unfold pastA
    rw [allB_flat, Bool.and_eq_true, allN_true]
    have h1 : layQ (f, true) = pastP f := by unfold layQ pastP; rw [← fut_O]; simp
    rw [h1]
    refine and_congr_right fun _ => ?_
    rw [all_args]
    exact forall_congr' fun j => forall_congr' fun hj => ih _ (getD_memK hj)
theorem lay_out (f : Fm) : pastA f = true → allI layQ false f := fun h => by
  rw [pastA_eq] at h
  exact past_layered h
def layL (f : Fm) : Bool := allB layQ f
/-- The reference's way to say that a formula is layered. -/
theorem layL_flat (f : Fm) : layL f = allN f.args.length fun i => layL (f.args.getD i default) && (!pastO f.op || pastA (f.args.getD i default)) := by
  unfold layL
  rw [Bool.eq_iff_iff, allN_true, allB_iff, allI_iff]
  have h1 : layQ (f, false) = true := by unfold layQ; simp
  rw [h1, all_args, past_O]
  simp only [true_and, Bool.false_or]
  refine forall_congr' fun j => forall_congr' fun hj => ?_
  rw [Bool.and_eq_true, Bool.or_eq_true]
  cases hp : pastO f.op
  · simp [allB_iff]
  · simp only [Bool.not_true, Bool.false_eq_true, false_or]
    rw [lay_in]
    exact ⟨fun h => ⟨lay_out _ h, h⟩, fun h => h.2⟩
theorem coreA_split (f : Fm) : ∀ ins, allI bareQ ins f ↔ nodesA f = true ∧ coreA f = true ∧ allI layQ ins f := by
  induction f using Fm.ind with
  | h f ih =>
    intro ins
    unfold nodesA coreA
    rw [allI_iff, allI_iff, allB_flat, allB_flat, Bool.and_eq_true, Bool.and_eq_true, allN_true, allN_true]
    have hq : bareQ (f, ins) = true ↔ shapedB f = true ∧ coreP f = true ∧ layQ (f, ins) = true := by
      unfold bareQ coreP layQ
      rw [← loose_O]
      simp only [Bool.and_eq_true]
      constructor
      · rintro ⟨⟨⟨a, b⟩, c⟩, d⟩; exact ⟨b, ⟨a, d⟩, c⟩
      · rintro ⟨b, ⟨a, d⟩, c⟩; exact ⟨⟨⟨a, b⟩, c⟩, d⟩
    rw [hq, all_args, all_args]
    constructor
    · rintro ⟨⟨a, b, c⟩, h⟩
      exact ⟨⟨a, fun j hj => ((ih _ (getD_memK hj) _).1 (h j hj)).1⟩, ⟨b, fun j hj => ((ih _ (getD_memK hj) _).1 (h j hj)).2.1⟩, c, fun j hj => ((ih _ (getD_memK hj) _).1 (h j hj)).2.2⟩
    · rintro ⟨⟨a, h1⟩, ⟨b, h2⟩, c, h3⟩
      exact ⟨⟨a, b, c⟩, fun j hj => (ih _ (getD_memK hj) _).2 ⟨h1 j hj, h2 j hj, h3 j hj⟩⟩
theorem shaped_notK {f : Fm} (h : shapedB f = true) (h4 : f.op = 4) : 0 < f.args.length := by
  have := (shp_out h).2.1
  rw [h4] at this
  exact this
theorem core_arg {f : Fm} (h : nodesA f = true) (h4 : f.op = 4) : 0 < f.args.length := by
  unfold nodesA at h
  rw [allB_flat, Bool.and_eq_true] at h
  exact shaped_notK h.1 h4
/-- The least and the greatest number of arguments. -/
def countZ (o : Int) : Int × Int × Bool :=
  if o = 1 ∨ o = 2 ∨ o = 3 then (0, 0, true)
  else if o = 4 ∨ o = 8 ∨ o = 11 ∨ o = 12 ∨ o = 13 ∨ o = 14 ∨ o = 15 ∨ o = 18 ∨ o = 19 then (1, 1, true)
  else if o = 7 ∨ o = 9 ∨ o = 10 ∨ o = 16 ∨ o = 17 then (2, 2, true)
  else if o = 5 ∨ o = 6 then (2, -1, true)
  else (0, 0, false)
theorem countZ_not {o : Int} (h : ¬ isOp o = true) : countZ o = (0, 0, false) := by
  have := isOp_not h
  unfold countZ
  rw [if_neg (by omega), if_neg (by omega), if_neg (by omega), if_neg (by omega)]
end Go.Proofs.YtahgbgniaiccbaaGreatDoor
