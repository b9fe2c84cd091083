/-
  Plain laws of typing: the requirements one by one; the goal with the requirements in the opposite order and with further ones.
  Signals and requirements in memory.
  Walk of signal.Valid and signal.Find.
-/
import Derived.Test.YtdakdpfofgkjoaaGreatDoorZ31
import Derived.WalkMore
import Derived.Test.YtdakdpfofgkjoaaGreatDoorZ06
set_option linter.unusedVariables false
set_option linter.unusedSimpArgs false
namespace Go.Proofs.YtdakdpfofgkjoaaGreatDoor

theorem faultsTo_ext (l : List Sg) (rs : List Rq) (i : Nat) : ∀ m, ∃ G, faultsTo l rs (i + m) = faultsTo l rs i ++ G ∧ ∀ x, x ∈ G → (i : Int) ≤ x.1
  | 0 => ⟨[], by simp, fun x h => by cases h⟩
  | m + 1 => by
    obtain ⟨G, h1, h2⟩ := faultsTo_ext l rs i m
    refine ⟨G ++ (if reqErr l rs (i + m) = 0 then [] else [(((i + m : Nat) : Int), reqErr l rs (i + m))]), by rw [← Nat.add_assoc, faultsTo_succ, h1, List.append_assoc], fun x hx => ?_⟩
    rw [List.mem_append] at hx
    rcases hx with hx | hx
    · exact h2 x hx
    · split at hx
      · cases hx
      · rw [List.mem_singleton] at hx
        subst hx
        show (i : Int) ≤ ((i + m : Nat) : Int)
        omega
theorem fault_yes {l : List Sg} {rs : List Rq} {i n : Nat} (hi : i < n) (h : reqErr l rs i ≠ 0) : (faultsTo l rs i).length < (faultsTo l rs n).length ∧ (faultsTo l rs n).getD (faultsTo l rs i).length (0, 0) = ((i : Int), reqErr l rs i) := by
  obtain ⟨G, e, _⟩ := faultsTo_ext l rs (i + 1) (n - (i + 1))
  rw [show i + 1 + (n - (i + 1)) = n by omega, faultsTo_succ, if_neg h] at e
  rw [e]
  constructor
  · simp only [List.length_append, List.length_cons]; omega
  · simp [List.getD]
theorem fault_no {l : List Sg} {rs : List Rq} {i n : Nat} (hi : i < n) (h : reqErr l rs i = 0) (hk : (faultsTo l rs i).length < (faultsTo l rs n).length) : ((faultsTo l rs n).getD (faultsTo l rs i).length (0, 0)).1 ≠ (i : Int) := by
  obtain ⟨G, e, h2⟩ := faultsTo_ext l rs (i + 1) (n - (i + 1))
  rw [show i + 1 + (n - (i + 1)) = n by omega, faultsTo_succ, if_pos h, List.append_nil] at e
  rw [e] at hk ⊢
  rw [List.length_append] at hk
  have hG : (faultsTo l rs i ++ G).getD (faultsTo l rs i).length (0, 0) ∈ G := by
    have : 0 < G.length := by omega
    simp [List.getD, this]
  have := h2 _ hG
  omega
/-- The error of a requirement that stands alone. -/
def aloneE (l : List Sg) (r : Rq) : Int := if wordsOk r then formErr l r.f else 1
theorem alone_req (l : List Sg) (r : Rq) : reqErr l [r] 0 = aloneE l r := by
  unfold reqErr aloneE
  show (if wordsOk r = true then (if firstN r.name _ < 0 then 4 else formErr l r.f) else 1) = _
  rw [if_neg (Nat.not_lt_zero _)]
theorem check_alone {l : List Sg} (h : validS l = true) (r : Rq) : checkZ l [r] = if aloneE l r = 0 then [] else [(0, aloneE l r)] := by
  unfold checkZ
  rw [if_pos h, if_pos (by simp)]
  show faultsTo l [r] 1 = _
  rw [faultsTo_succ, alone_req]
  rfl
theorem reqErr_alone {l : List Sg} {rs : List Rq} {i : Nat} (h : reqErr l rs i ≠ 4) : reqErr l rs i = aloneE l (rs.getD i default) := by
  unfold reqErr aloneE at *
  by_cases h1 : wordsOk (rs.getD i default) = true
  · rw [if_pos h1] at h ⊢
    rw [if_pos h1]
    by_cases h2 : firstN (rs.getD i default).name (rqNames rs) < i
    · rw [if_pos h2] at h; exact absurd rfl h
    · rw [if_neg h2]
  · rw [if_neg h1, if_neg h1]
def goodTo (l : List Sg) (rs : List Rq) (k : Nat) : List Rq := (List.range k).flatMap fun i => if reqErr l rs i = 0 then [rs.getD i default] else []
theorem goodTo_succ (l : List Sg) (rs : List Rq) (k : Nat) : goodTo l rs (k + 1) = goodTo l rs k ++ (if reqErr l rs k = 0 then [rs.getD k default] else []) := by
  unfold goodTo
  rw [List.range_succ, List.flatMap_append]
  simp
theorem goodTo_len (l : List Sg) (rs : List Rq) : ∀ k, (goodTo l rs k).length ≤ k
  | 0 => by simp [goodTo]
  | k + 1 => by
    rw [goodTo_succ, List.length_append]
    have := goodTo_len l rs k
    split
    · simp; omega
    · simp; omega
theorem goodTo_mem {l : List Sg} {rs : List Rq} {k : Nat} {r : Rq} (h : r ∈ goodTo l rs k) : ∃ i, i < k ∧ reqErr l rs i = 0 ∧ r = rs.getD i default := by
  unfold goodTo at h
  rw [List.mem_flatMap] at h
  obtain ⟨i, hi, h⟩ := h
  split at h
  · rename_i h0
    rw [List.mem_singleton] at h
    exact ⟨i, List.mem_range.1 hi, h0, h⟩
  · cases h
theorem good_names {l : List Sg} {rs : List Rq} : ∀ k, k ≤ rs.length → (rqNames (goodTo l rs k)).Nodup
  | 0, _ => List.Pairwise.nil
  | k + 1, hk => by
    rw [goodTo_succ]
    by_cases h : reqErr l rs k = 0
    · rw [if_pos h]
      unfold rqNames
      rw [List.map_append, List.nodup_append]
      refine ⟨good_names k (by omega), by simp, ?_⟩
      intro a ha b hb e
      subst e
      rw [List.map_cons, List.map_nil, List.mem_singleton] at hb
      obtain ⟨r, hr, e⟩ := List.mem_map.1 ha
      obtain ⟨i, hi, _, rfl⟩ := goodTo_mem hr
      have h2 := ((reqErr_zero (by omega)).1 h).2.1
      have h3 := (firstN_ge (by rw [rqNames_len]; omega)).1 h2 i hi
      rw [rqNames_at i (by omega)] at h3
      exact h3 (by rw [e, hb])
    · rw [if_neg h, List.append_nil]
      exact good_names k (by omega)
theorem good_good {l : List Sg} {rs : List Rq} (hv : validS l = true) (hl : rs.length ≤ 16) : checkZ l (goodTo l rs rs.length) = [] := by
  rw [check_nil]
  refine ⟨hv, Nat.le_trans (goodTo_len _ _ _) hl, fun r hr => ?_, fun r hr => ?_, good_names _ (Nat.le_refl _)⟩
  · obtain ⟨i, hi, h0, rfl⟩ := goodTo_mem hr
    exact ((reqErr_zero hi).1 h0).1
  · obtain ⟨i, hi, h0, rfl⟩ := goodTo_mem hr
    exact ((reqErr_zero hi).1 h0).2.2

/-! The goal. -/
def sOther : ByteArray := ⟨#[111, 116, 104, 101, 114]⟩
def sTruth : ByteArray := ⟨#[116, 114, 117, 116, 104]⟩
/-- The new name of requirement i. -/
def nm (i : Nat) : ByteArray := ⟨#[UInt8.ofNat (97 + i), 95, 120]⟩
def ren (i : Nat) (r : Rq) : Rq := ⟨sOther, nm i, r.kind, r.f⟩
/-- The first k of the requirements in the opposite order. -/
def backZ (rs : List Rq) (k : Nat) : List Rq := (List.range k).map fun j => ren (rs.length - 1 - j) (rs.getD (rs.length - 1 - j) default)
theorem backZ_succ (rs : List Rq) (k : Nat) : backZ rs (k + 1) = backZ rs k ++ [ren (rs.length - 1 - k) (rs.getD (rs.length - 1 - k) default)] := by
  unfold backZ
  rw [List.range_succ, List.map_append]; rfl
theorem backZ_len (rs : List Rq) (k : Nat) : (backZ rs k).length = k := by simp [backZ]
theorem name_other : nameB sOther = true := by unfold nameB sOther; simp only [ByteArray.toList_eq]; decide
theorem name_truth : nameB sTruth = true := by unfold nameB sTruth; simp only [ByteArray.toList_eq]; decide
theorem name_nm {i : Nat} (h : i < 14) : nameB (nm i) = true := by
  unfold nameB nm
  simp only [ByteArray.toList_eq]
  match i, h with
  | 0, _ => decide
  | 1, _ => decide
  | 2, _ => decide
  | 3, _ => decide
  | 4, _ => decide
  | 5, _ => decide
  | 6, _ => decide
  | 7, _ => decide
  | 8, _ => decide
  | 9, _ => decide
  | 10, _ => decide
  | 11, _ => decide
  | 12, _ => decide
  | 13, _ => decide
theorem nm_inj {i j : Nat} (hi : i < 14) (hj : j < 14) (h : nm i = nm j) : i = j := by
  unfold nm at h
  have h1 := congrArg (fun s : ByteArray => (s.data[0]?.getD 0).toNat) h
  simp at h1
  omega
theorem nm_truth (i : Nat) : nm i ≠ sTruth := by
  unfold nm sTruth
  intro h
  have h1 : (3 : Nat) = 5 := congrArg ByteArray.size h
  omega
theorem back_mem {rs : List Rq} {r : Rq} : r ∈ backZ rs rs.length ↔ ∃ i, i < rs.length ∧ r = ren i (rs.getD i default) := by
  unfold backZ
  rw [List.mem_map]
  constructor
  · rintro ⟨j, hj, rfl⟩
    have := List.mem_range.1 hj
    exact ⟨rs.length - 1 - j, by omega, rfl⟩
  · rintro ⟨i, hi, rfl⟩
    refine ⟨rs.length - 1 - i, List.mem_range.2 (by omega), ?_⟩
    rw [show rs.length - 1 - (rs.length - 1 - i) = i by omega]
theorem back_nodup {rs : List Rq} (h : rs.length ≤ 14) : ∀ k, k ≤ rs.length → (rqNames (backZ rs k)).Nodup
  | 0, _ => List.Pairwise.nil
  | k + 1, hk => by
    rw [backZ_succ]
    unfold rqNames
    rw [List.map_append, List.nodup_append]
    refine ⟨back_nodup h k (by omega), by simp, ?_⟩
    intro a ha b hb e
    subst e
    rw [List.map_cons, List.map_nil, List.mem_singleton] at hb
    obtain ⟨r, hr, e⟩ := List.mem_map.1 ha
    unfold backZ at hr
    obtain ⟨j, hj, rfl⟩ := List.mem_map.1 hr
    have hj := List.mem_range.1 hj
    rw [hb] at e
    have := nm_inj (i := rs.length - 1 - j) (j := rs.length - 1 - k) (by omega) (by omega) e
    omega
theorem words_ren {r : Rq} (h : wordsOk r = true) {i : Nat} (hi : i < 14) : wordsOk (ren i r) = true := by
  unfold wordsOk at h ⊢
  simp only [Bool.and_eq_true] at h ⊢
  exact ⟨⟨h.1.1, name_other⟩, name_nm hi⟩
theorem good_back {l : List Sg} {rs : List Rq} (h : Good l rs) (hl : rs.length ≤ 14) : Good l (backZ rs rs.length) := by
  refine ⟨h.valid, by rw [backZ_len]; omega, fun r hr => ?_, fun r hr => ?_, back_nodup hl _ (Nat.le_refl _)⟩
  · obtain ⟨i, hi, rfl⟩ := back_mem.1 hr
    exact words_ren (h.words _ (getD_mem hi)) (by omega)
  · obtain ⟨i, hi, rfl⟩ := back_mem.1 hr
    exact h.fits (rs.getD i default) (getD_mem hi)
/-- The requirement that is added. -/
def addR (k o : Int) : Rq := ⟨sOther, sTruth, k, opF o []⟩
theorem leaf_valid {o : Int} (h : o = 1 ∨ o = 2) : validB (opF o []) = true ∧ allB layQ (opF o []) = true := by
  have hk : kernelB (opF o []) = true := kernel_of (by rw [leaf_size]; omega) (by rw [leaf_depth]; omega) (allI_leaf h)
  exact kernel_valid hk
theorem leaf_kern {o : Int} (h : o = 1 ∨ o = 2) : kernZ (opF o []) = (opF o [], 0) := by
  have h1 := leaf_valid h
  have e : kf false (opF o []) = opF o [] := kf_self _ false (allI_leaf h)
  unfold kernZ layB
  rw [h1.1, h1.2, e, if_pos (show (true && true) = true from rfl), if_pos (by rw [fits_true]; rw [leaf_size, leaf_depth]; omega)]
theorem leaf_not : notZ (opF 1 []) = opF 2 [] ∧ notZ (opF 2 []) = opF 1 [] := by
  constructor
  · unfold notZ; rw [leaf_loose (.inl rfl)]; rfl
  · unfold notZ; rw [leaf_loose (.inr rfl)]; rfl
theorem leaf_err {l : List Sg} (hv : validS l = true) {o : Int} (h : o = 1 ∨ o = 2) : formErr l (opF o []) = 0 := by
  rw [formErr_zero]
  refine ⟨hv, (leaf_valid h).1, ?_, by rw [leaf_kern h]⟩
  unfold allB
  rw [preL_eq]
  rcases h with rfl | rfl <;> rfl
theorem good_add {l : List Sg} {rs : List Rq} (h : Good l rs) (hl : rs.length ≤ 14) {k o : Int} (hk : k = 1 ∨ k = 2) (ho : o = 1 ∨ o = 2) : Good l (backZ rs rs.length ++ [addR k o]) := by
  have hb := good_back h hl
  refine ⟨h.valid, by rw [List.length_append, backZ_len]; simp; omega, fun r hr => ?_, fun r hr => ?_, ?_⟩
  · rw [List.mem_append, List.mem_singleton] at hr
    rcases hr with hr | rfl
    · exact hb.words r hr
    · unfold wordsOk addR
      simp only [Bool.and_eq_true, Bool.or_eq_true, decide_eq_true_eq]
      exact ⟨⟨hk, name_other⟩, name_truth⟩
  · rw [List.mem_append, List.mem_singleton] at hr
    rcases hr with hr | rfl
    · exact hb.fits r hr
    · exact leaf_err h.valid ho
  · unfold rqNames
    rw [List.map_append, List.nodup_append]
    refine ⟨hb.names, by simp, ?_⟩
    intro a ha b hb2 e
    subst e
    rw [List.map_cons, List.map_nil, List.mem_singleton] at hb2
    obtain ⟨r, hr, e⟩ := List.mem_map.1 ha
    obtain ⟨i, hi, rfl⟩ := back_mem.1 hr
    rw [hb2] at e
    exact nm_truth i e
theorem parts_mem {rs : List Rq} {x : Fm} : x ∈ partsZ rs ↔ ∃ r, r ∈ rs ∧ r.kind = 1 ∧ x = notZ (kernZ r.f).1 := by
  unfold partsZ
  rw [List.mem_map]
  constructor
  · rintro ⟨r, hr, rfl⟩
    rw [List.mem_filter, decide_eq_true_eq] at hr
    exact ⟨r, hr.1, hr.2, rfl⟩
  · rintro ⟨r, h1, h2, rfl⟩
    exact ⟨r, List.mem_filter.2 ⟨h1, decide_eq_true h2⟩, rfl⟩
theorem guars_mem {rs : List Rq} {x : Fm} : x ∈ guarsZ rs ↔ ∃ r, r ∈ rs ∧ r.kind ≠ 1 ∧ x = (kernZ r.f).1 := by
  unfold guarsZ
  rw [List.mem_map]
  constructor
  · rintro ⟨r, hr, rfl⟩
    rw [List.mem_filter] at hr
    exact ⟨r, hr.1, by simpa using hr.2, rfl⟩
  · rintro ⟨r, h1, h2, rfl⟩
    exact ⟨r, List.mem_filter.2 ⟨h1, by simpa using h2⟩, rfl⟩
theorem parts_back (rs : List Rq) (x : Fm) : x ∈ partsZ (backZ rs rs.length) ↔ x ∈ partsZ rs := by
  rw [parts_mem, parts_mem]
  constructor
  · rintro ⟨r, hr, h1, rfl⟩
    obtain ⟨i, hi, rfl⟩ := back_mem.1 hr
    exact ⟨_, getD_mem hi, h1, rfl⟩
  · rintro ⟨r, hr, h1, rfl⟩
    obtain ⟨i, hi, rfl⟩ := mem_getD hr
    exact ⟨_, back_mem.2 ⟨i, hi, rfl⟩, h1, rfl⟩
theorem guars_back (rs : List Rq) (x : Fm) : x ∈ guarsZ (backZ rs rs.length) ↔ x ∈ guarsZ rs := by
  rw [guars_mem, guars_mem]
  constructor
  · rintro ⟨r, hr, h1, rfl⟩
    obtain ⟨i, hi, rfl⟩ := back_mem.1 hr
    exact ⟨_, getD_mem hi, h1, rfl⟩
  · rintro ⟨r, hr, h1, rfl⟩
    obtain ⟨i, hi, rfl⟩ := mem_getD hr
    exact ⟨_, back_mem.2 ⟨i, hi, rfl⟩, h1, rfl⟩
theorem lastZ_congr {rs ss : List Rq} (h1 : connZ 5 (guarsZ rs) = connZ 5 (guarsZ ss)) (h2 : connZ 6 (partsZ rs ++ [connZ 5 (guarsZ rs)]) = connZ 6 (partsZ ss ++ [connZ 5 (guarsZ rs)])) : lastZ rs = lastZ ss := by
  unfold lastZ
  rw [h2, ← h1]
theorem last_back (rs : List Rq) : lastZ (backZ rs rs.length) = lastZ rs :=
  lastZ_congr (connZ_perm (guars_back rs)) (connZ_perm fun x => by rw [List.mem_append, List.mem_append, parts_back])
theorem last_ok {rs : List Rq} (h : (lastZ rs).2 = 0) : (connZ 5 (guarsZ rs)).op ≠ 0 ∧ (connZ 6 (partsZ rs ++ [connZ 5 (guarsZ rs)])).op ≠ 0 ∧ (lastZ rs).1 = connZ 6 (partsZ rs ++ [connZ 5 (guarsZ rs)]) := by
  unfold lastZ at h ⊢
  by_cases h1 : (connZ 5 (guarsZ rs)).op = 0
  · rw [if_pos h1] at h; cases h
  · rw [if_neg h1] at h ⊢
    by_cases h2 : (connZ 6 (partsZ rs ++ [connZ 5 (guarsZ rs)])).op = 0
    · rw [if_pos h2] at h; cases h
    · rw [if_neg h2]; exact ⟨h1, h2, rfl⟩
theorem last_of {rs : List Rq} (h1 : (connZ 5 (guarsZ rs)).op ≠ 0) (h2 : (connZ 6 (partsZ rs ++ [connZ 5 (guarsZ rs)])).op ≠ 0) : lastZ rs = (connZ 6 (partsZ rs ++ [connZ 5 (guarsZ rs)]), 0) := by
  unfold lastZ
  rw [if_neg h1, if_neg h2]
theorem parts_append (rs ss : List Rq) : partsZ (rs ++ ss) = partsZ rs ++ partsZ ss := by unfold partsZ; rw [List.filter_append, List.map_append]
theorem guars_append (rs ss : List Rq) : guarsZ (rs ++ ss) = guarsZ rs ++ guarsZ ss := by unfold guarsZ; rw [List.filter_append, List.map_append]
/-- What TypingGoals says, plain. -/
structure GoalLaw (l : List Sg) (rs : List Rq) (g : Fm) : Prop where
  back : goalZ l (backZ rs rs.length) = (g, 0)
  alone : partsZ rs = [] → g = connZ 5 (guarsZ (backZ rs rs.length))
  truth : goalZ l (backZ rs rs.length ++ [addR 2 1]) = (g, 0)
  assume_ : goalZ l (backZ rs rs.length ++ [addR 1 1]) = (g, 0)
  false_ : goalZ l (backZ rs rs.length ++ [addR 1 2]) = (opF 1 [], 0)
theorem goal_law {l : List Sg} {rs : List Rq} (hl : rs.length ≤ 14) (h : (goalZ l rs).2 = 0) : GoalLaw l rs (goalZ l rs).1 := by
  have hg := goal_ok h
  rw [goal_good hg] at h ⊢
  obtain ⟨h1, h2, h3⟩ := last_ok h
  have hlast : lastZ rs = ((lastZ rs).1, 0) := by rw [← h]
  have hA := connZ_ok (.inl rfl) h1
  have hB := connZ_ok (.inr rfl) h2
  have hlb := last_back rs
  obtain ⟨k1, k2, k3⟩ := last_ok (rs := backZ rs rs.length) (by rw [hlb]; exact h)
  have hC := connZ_ok (.inr rfl) k2
  refine ⟨?_, ?_, ?_, ?_, ?_⟩
  · rw [goal_good (good_back hg hl), hlb]; exact hlast
  · intro hp
    rw [h3, hp, List.nil_append, connZ_one (.inr rfl) hA.2.1 hA.2.2.1]
    exact (connZ_perm (guars_back rs)).symm
  · rw [goal_good (good_add hg hl (.inr rfl) (.inl rfl)), ← hlast, ← hlb]
    have e1 : guarsZ [addR 2 1] = [opF (unitZ 5) []] := by show [(kernZ (opF 1 [])).1] = _; rw [leaf_kern (.inl rfl)]; rfl
    have e2 : partsZ [addR 2 1] = [] := rfl
    have e3 : connZ 5 (guarsZ (backZ rs rs.length ++ [addR 2 1])) = connZ 5 (guarsZ (backZ rs rs.length)) := by
      rw [guars_append, e1, ← connZ_unit (.inl rfl) (guarsZ (backZ rs rs.length))]
      exact connZ_perm fun x => by simp [or_comm]
    refine lastZ_congr e3 ?_
    rw [parts_append, e2, List.append_nil]
  · rw [goal_good (good_add hg hl (.inl rfl) (.inl rfl)), ← hlast, ← hlb]
    have e1 : guarsZ [addR 1 1] = [] := rfl
    have e2 : partsZ [addR 1 1] = [opF (unitZ 6) []] := by show [notZ (kernZ (opF 1 [])).1] = _; rw [leaf_kern (.inl rfl), leaf_not.1]; rfl
    have e3 : connZ 5 (guarsZ (backZ rs rs.length ++ [addR 1 1])) = connZ 5 (guarsZ (backZ rs rs.length)) := by rw [guars_append, e1, List.append_nil]
    refine lastZ_congr e3 ?_
    rw [parts_append, e2, ← connZ_unit (.inr rfl) (partsZ (backZ rs rs.length) ++ [connZ 5 (guarsZ (backZ rs rs.length ++ [addR 1 1]))])]
    refine connZ_perm fun x => ?_
    simp only [List.mem_append, List.mem_cons, List.not_mem_nil, or_false]
    constructor
    · rintro ((h | h) | h)
      · exact .inr (.inl h)
      · exact .inl h
      · exact .inr (.inr h)
    · rintro (h | h | h)
      · exact .inl (.inr h)
      · exact .inl (.inl h)
      · exact .inr h
  · rw [goal_good (good_add hg hl (.inl rfl) (.inr rfl))]
    have e1 : guarsZ [addR 1 2] = [] := rfl
    have e2 : partsZ [addR 1 2] = [opF (zeroZ 6) []] := by show [notZ (kernZ (opF 2 [])).1] = _; rw [leaf_kern (.inr rfl), leaf_not.2]; rfl
    have e3 : connZ 5 (guarsZ (backZ rs rs.length ++ [addR 1 2])) = connZ 5 (guarsZ (backZ rs rs.length)) := by rw [guars_append, e1, List.append_nil]
    have e4 : connZ 6 (partsZ (backZ rs rs.length ++ [addR 1 2]) ++ [connZ 5 (guarsZ (backZ rs rs.length ++ [addR 1 2]))]) = opF 1 [] := by
      rw [e3, parts_append, e2]
      refine connZ_zero (.inr rfl) ?_ (by simp)
      intro g hg2
      simp only [List.mem_append, List.mem_singleton] at hg2
      rcases hg2 with (hg2 | rfl) | rfl
      · exact hC.1 g (by simp [hg2])
      · exact leaf_loose (.inl rfl)
      · exact hC.1 _ (by simp)
    rw [last_of (by rw [e3]; exact k1) (by rw [e4]; decide), e4]
end Go.Proofs.YtdakdpfofgkjoaaGreatDoor
set_option linter.unusedVariables false
set_option linter.unusedSimpArgs false
namespace Go.Proofs.YtdakdpfofgkjoaaGreatDoor
open Go.RowKit

def gcells (s : Sg) : List Value := [.string s.name, .bool s.inp, .int .i64 s.size]
/-- A slice of signals. -/
def RdG (w : World) (D : Dom) (A : Option Addr) (c : Nat) (l : List Sg) : Prop := Rd w D 3 A l.length c (l.flatMap gcells)
section
variable {D E : Dom} {w w' : World} {A : Option Addr} {c : Nat} {l : List Sg}
theorem RdG.nil (w : World) (D : Dom) (A : Option Addr) {c : Nat} (hc : c ≤ 9223372036854775807) : RdG w D A c [] := Rd.nil w D 3 A hc
theorem RdG.len (h : RdG w D A c l) : l.length ≤ 140737488355328 ∧ l.length ≤ c ∧ c ≤ 9223372036854775807 := h.1.2
theorem RdG.keep (h : RdG w D A c l) (hk : Keeps D w w') : RdG w' D A c l := Rd.keep h hk
theorem RdG.mono (h : RdG w D A c l) (hE : ∀ b, D b → b < w.heap.size → E b) : RdG w E A c l := Rd.mono h hE
theorem RdG.old (h : RdG w D A c l) : RdG w (· < w.heap.size) A c l := Rd.old h
theorem RdG.any (h : RdG w D A c l) (hb : Below w.heap.size w w') : RdG w' AnyD A c l := (h.old.keep (Keeps.of_below hb fun _ h => h)).mono fun _ _ _ => trivial
theorem RdG.get {k : Nat} (h : RdG w D A c l) (hk : k < l.length) : ∃ b o s, A = some ⟨b, o, none⟩ ∧ b < w.heap.size ∧ Hid (l.getD k default = s) ∧
    w.cell? ⟨b, o + k * 3, none⟩ = some (.string s.name) ∧ w.cell? ⟨b, o + k * 3 + 1, none⟩ = some (.bool s.inp) ∧ w.cell? ⟨b, o + k * 3 + 2, none⟩ = some (.int .i64 s.size) := by
  obtain ⟨b, o, e, hb, hl, hc⟩ := h.2 (by omega)
  have g : ∀ j u, j < 3 → (gcells (l.getD k default))[j]? = some u → w.cell? ⟨b, o + (k * 3 + j), none⟩ = some u := fun j u hj hu => hc _ _ (by rw [flatF_at gcells default 3 (fun _ => rfl) l k j hk hj]; exact hu)
  have g0 := g 0 _ (by omega) rfl
  have g1 := g 1 _ (by omega) rfl
  have g2 := g 2 _ (by omega) rfl
  exact ⟨b, o, l.getD k default, e, hl, hid rfl, by simpa using g0, by simpa [Nat.add_assoc] using g1, by simpa [Nat.add_assoc] using g2⟩
end
/-- A requirement's cells. -/
def qcells (r : Rq) (s : Option Addr × Nat) : List Value := [.string r.part, .string r.name, .int .i64 r.kind, .int .i64 r.f.op, .string r.f.name, .int .i64 r.f.val, .int .i64 r.f.bound, .slice s.1 r.f.args.length s.2]
def cellsQ (l : List Rq) (sl : List (Option Addr × Nat)) : List Value := (l.zip sl).flatMap fun p => qcells p.1 p.2
/-- A slice of requirements. -/
def RdR (w : World) (D : Dom) (A : Option Addr) (c : Nat) (l : List Rq) : Prop :=
  ∃ sl : List (Option Addr × Nat), sl.length = l.length ∧ Rd w D 8 A l.length c (cellsQ l sl) ∧ ∀ i, i < l.length → RdA w D (l.getD i default).f.args (sl.getD i (none, 0)).1 (sl.getD i (none, 0)).2
theorem zipQ_get {L : List Rq} {sl : List (Option Addr × Nat)} (hl : sl.length = L.length) {k : Nat} (hk : k < L.length) : (L.zip sl).getD k (default, (none, 0)) = (L.getD k default, sl.getD k (none, 0)) := by
  have hs : k < sl.length := by omega
  have hzk : k < (L.zip sl).length := by rw [List.length_zip]; omega
  rw [List.getD_eq_getElem?_getD, List.getD_eq_getElem?_getD, List.getD_eq_getElem?_getD, List.getElem?_eq_getElem hzk, List.getElem?_eq_getElem hk, List.getElem?_eq_getElem hs]
  exact List.getElem_zip
theorem cellsQ_at {L : List Rq} {sl : List (Option Addr × Nat)} (hl : sl.length = L.length) {k j : Nat} (hk : k < L.length) (hj : j < 8) : (cellsQ L sl)[k * 8 + j]? = (qcells (L.getD k default) (sl.getD k (none, 0)))[j]? := by
  unfold cellsQ
  rw [flatF_at (fun p : Rq × (Option Addr × Nat) => qcells p.1 p.2) (default, ((none : Option Addr), 0)) 8 (fun _ => rfl) (L.zip sl) k j (by rw [List.length_zip, hl]; omega) hj, zipQ_get hl hk]
/-- The struct at p is the requirement r. -/
structure HasR (w : World) (D : Dom) (b o : Nat) (r : Rq) (A : Option Addr) (c : Nat) : Prop where
  dom : D b
  lt : b < w.heap.size
  c0 : w.cell? ⟨b, o, none⟩ = some (.string r.part)
  c1 : w.cell? ⟨b, o + 1, none⟩ = some (.string r.name)
  c2 : w.cell? ⟨b, o + 2, none⟩ = some (.int .i64 r.kind)
  c3 : w.cell? ⟨b, o + 3, none⟩ = some (.int .i64 r.f.op)
  c4 : w.cell? ⟨b, o + 4, none⟩ = some (.string r.f.name)
  c5 : w.cell? ⟨b, o + 5, none⟩ = some (.int .i64 r.f.val)
  c6 : w.cell? ⟨b, o + 6, none⟩ = some (.int .i64 r.f.bound)
  c7 : w.cell? ⟨b, o + 7, none⟩ = some (.slice A r.f.args.length c)
  args : RdA w D r.f.args A c
section
variable {D E : Dom} {w w' : World} {A : Option Addr} {c : Nat} {l : List Rq}
theorem RdR.nil (w : World) (D : Dom) (A : Option Addr) {c : Nat} (hc : c ≤ 9223372036854775807) : RdR w D A c [] := ⟨[], rfl, Rd.nil w D 8 A hc, fun _ h => absurd h (Nat.not_lt_zero _)⟩
theorem RdR.len (h : RdR w D A c l) : l.length ≤ 140737488355328 ∧ l.length ≤ c ∧ c ≤ 9223372036854775807 := let ⟨_, _, h1, _⟩ := h; h1.1.2
theorem RdR.keep (h : RdR w D A c l) (hk : Keeps D w w') : RdR w' D A c l := let ⟨sl, h0, h1, h2⟩ := h; ⟨sl, h0, h1.keep hk, fun i hi => (h2 i hi).keep hk⟩
theorem RdR.mono (h : RdR w D A c l) (hE : ∀ b, D b → b < w.heap.size → E b) : RdR w E A c l := let ⟨sl, h0, h1, h2⟩ := h; ⟨sl, h0, h1.mono hE, fun i hi => (h2 i hi).mono hE⟩
theorem RdR.old (h : RdR w D A c l) : RdR w (· < w.heap.size) A c l := h.mono fun _ _ hl => hl
theorem RdR.any (h : RdR w D A c l) (hb : Below w.heap.size w w') : RdR w' AnyD A c l := (h.old.keep (Keeps.of_below hb fun _ h => h)).mono fun _ _ _ => trivial
theorem RdR.get {k : Nat} (h : RdR w D A c l) (hk : k < l.length) : ∃ b o A' c' r, A = some ⟨b, o, none⟩ ∧ Hid (l.getD k default = r) ∧ HasR w D b (o + k * 8) r A' c' := by
  obtain ⟨sl, h0, h1, h2⟩ := h
  obtain ⟨b, o, e, hb, hl, hc⟩ := h1.2 (by omega)
  have g : ∀ j u, j < 8 → (qcells (l.getD k default) (sl.getD k (none, 0)))[j]? = some u → w.cell? ⟨b, o + (k * 8 + j), none⟩ = some u := fun j u hj hu => hc _ _ (by rw [cellsQ_at h0 hk hj]; exact hu)
  have g0 := g 0 _ (by omega) rfl
  have g1 := g 1 _ (by omega) rfl
  have g2 := g 2 _ (by omega) rfl
  have g3 := g 3 _ (by omega) rfl
  have g4 := g 4 _ (by omega) rfl
  have g5 := g 5 _ (by omega) rfl
  have g6 := g 6 _ (by omega) rfl
  have g7 := g 7 _ (by omega) rfl
  exact ⟨b, o, _, _, l.getD k default, e, hid rfl, hb, hl, by simpa using g0, by simpa [Nat.add_assoc] using g1, by simpa [Nat.add_assoc] using g2, by simpa [Nat.add_assoc] using g3, by simpa [Nat.add_assoc] using g4, by simpa [Nat.add_assoc] using g5, by simpa [Nat.add_assoc] using g6, by simpa [Nat.add_assoc] using g7, h2 k hk⟩
/-- 's[i:i+1]'. -/
theorem RdR.cut1 {k : Nat} (h : RdR w D A c l) (hk : k < l.length) : ∃ b o, A = some ⟨b, o, none⟩ ∧ RdR w D (some ⟨b, o + k * 8, none⟩) (c - k) [l.getD k default] := by
  obtain ⟨sl, h0, h1, h2⟩ := h
  have hlen := h1.1.2
  obtain ⟨b, o, e, hb, hl, hc⟩ := h1.2 (by omega)
  refine ⟨b, o, e, [sl.getD k (none, 0)], rfl, ⟨⟨rfl, by simp, by simp; omega, by omega⟩, fun _ => ⟨b, o + k * 8, rfl, hb, hl, fun j u hu => ?_⟩⟩, fun i hi => ?_⟩
  · have hj : j < 8 := by
      rcases Nat.lt_or_ge j 8 with h | h
      · exact h
      · have : (cellsQ [l.getD k default] [sl.getD k (none, 0)])[j]? = none := List.getElem?_eq_none (by show 8 ≤ j; exact h)
        rw [this] at hu; cases hu
    rw [Nat.add_assoc]
    refine hc _ _ ?_
    rw [cellsQ_at h0 hk hj]
    have := cellsQ_at (L := [l.getD k default]) (sl := [sl.getD k (none, 0)]) rfl (k := 0) (j := j) (by simp) hj
    rw [Nat.zero_mul, Nat.zero_add] at this
    rw [this] at hu
    exact hu
  · have : i = 0 := by simpa using hi
    subst this
    exact h2 k hk
end
theorem HasR.keep {w w' : World} {D : Dom} {b o : Nat} {r : Rq} {A : Option Addr} {c : Nat} (h : HasR w D b o r A c) (hk : Keeps D w w') : HasR w' D b o r A c :=
  ⟨h.dom, Nat.lt_of_lt_of_le h.lt hk.size, hk.cell h.dom h.c0, hk.cell h.dom h.c1, hk.cell h.dom h.c2, hk.cell h.dom h.c3, hk.cell h.dom h.c4, hk.cell h.dom h.c5, hk.cell h.dom h.c6, hk.cell h.dom h.c7, h.args.keep hk⟩
theorem HasR.form {w : World} {D : Dom} {b o : Nat} {r : Rq} {A : Option Addr} {c : Nat} (h : HasR w D b o r A c) : HasF w D b (o + 3) r.f A c :=
  ⟨h.dom, h.lt, h.c3, h.c4, h.c5, h.c6, h.c7, h.args⟩
theorem HasR.any {w w' : World} {D : Dom} {b o : Nat} {r : Rq} {A : Option Addr} {c : Nat} (h : HasR w D b o r A c) (hb : Below w.heap.size w w') : HasR w' AnyD b o r A c := by
  have hk : Keeps (· < w.heap.size) w w' := Keeps.of_below hb fun _ h => h
  exact ⟨trivial, Nat.lt_of_lt_of_le h.lt hk.size, hk.cell h.lt h.c0, hk.cell h.lt h.c1, hk.cell h.lt h.c2, hk.cell h.lt h.c3, hk.cell h.lt h.c4, hk.cell h.lt h.c5, hk.cell h.lt h.c6, hk.cell h.lt h.c7, h.args.any hb⟩
end Go.Proofs.YtdakdpfofgkjoaaGreatDoor
set_option linter.unusedVariables false
set_option linter.unusedSimpArgs false
namespace Go.Proofs.YtdakdpfofgkjoaaGreatDoor
open Go.RowKit
attribute [local go_sem] cell_alloc_old

theorem mul_small {P s : Int} (h1 : 1 ≤ P) (h2 : P ≤ 4096) (h3 : 2 ≤ s) (h4 : s ≤ 4) : 1 ≤ P * s ∧ P * s ≤ 4 * P := by
  have : s = 2 ∨ s = 3 ∨ s = 4 := by omega
  rcases this with rfl | rfl | rfl <;> omega
/-- The sizes so far are small. -/
structure PrOk (l : List Sg) (i : Nat) (P : Int) : Prop where
  is : P = prodS (l.take i)
  lo : 1 ≤ P
  hi : P ≤ 4 ^ i
theorem PrOk.zero (l : List Sg) : PrOk l 0 1 := ⟨rfl, by omega, by decide⟩
theorem PrOk.succ {l : List Sg} {i : Nat} {P s : Int} (h : PrOk l i P) (hi : i < l.length) (h6 : i < 6) (hs : (l.getD i default).size = s) (h2 : 2 ≤ s) (h4 : s ≤ 4) : PrOk l (i + 1) (P * s) := by
  have hP : P ≤ 4096 := by
    refine Int.le_trans h.hi ?_
    have : i = 0 ∨ i = 1 ∨ i = 2 ∨ i = 3 ∨ i = 4 ∨ i = 5 := by omega
    rcases this with rfl | rfl | rfl | rfl | rfl | rfl <;> decide
  have hm := mul_small h.lo hP h2 h4
  refine ⟨?_, hm.1, ?_⟩
  · rw [take_succ_getD l default hi, prodS_append, ← h.is]
    show P * s = P * ((l.getD i default).size * 1)
    rw [hs, Int.mul_one]
  · have := h.hi
    rw [Int.pow_succ]
    omega
theorem PrOk.wrap {l : List Sg} {i : Nat} {P s : Int} (h : PrOk l i P) (h6 : i < 6) (h2 : 2 ≤ s) (h4 : s ≤ 4) : IntKind.i64.wrap (P * s) = P * s := by
  have hP : P ≤ 4096 := by
    refine Int.le_trans h.hi ?_
    have : i = 0 ∨ i = 1 ∨ i = 2 ∨ i = 3 ∨ i = 4 ∨ i = 5 := by omega
    rcases this with rfl | rfl | rfl | rfl | rfl | rfl <;> decide
  have hm := mul_small h.lo hP h2 h4
  exact IntWalk.i64_in _ (by omega)
theorem sg_bad {l : List Sg} {i : Nat} (hi : i < l.length) (h : sgOk l i = false) : validS l = false := by
  unfold validS
  rw [allN_false hi h]
  simp
theorem findN_le {l : List Sg} {s : ByteArray} {k : Nat} (hk : k < l.length) (h : (l.getD k default).name = s) : findN l s ≤ k :=
  firstN_of (by rw [sgNames_len]; exact hk) (by rw [sgNames_at k hk]; exact h)
theorem findN_ge {l : List Sg} {s : ByteArray} {k : Nat} (hk : k ≤ l.length) (h : ∀ j, j < k → (l.getD j default).name ≠ s) : k ≤ findN l s :=
  (firstN_ge (by rw [sgNames_len]; exact hk)).2 fun j hj => by rw [sgNames_at j (by omega)]; exact h j hj
theorem findN_top (l : List Sg) (s : ByteArray) : findN l s ≤ l.length := by have := firstN_le s (sgNames l); rw [sgNames_len] at this; exact this
set_option maxRecDepth 100000 in
set_option maxHeartbeats 4000000 in
theorem svalid_any {D : Dom} (l : List Sg) (A : Option Addr) (c n : Nat) (w : World) (hn : n = l.length) (h : RdG w D A c l) (hk : GK w) :
    Calls Tryz.prog 36 #[.slice A n c] w fun e w' => e = .returned (.bool (validS l)) ∧ Below w.heap.size w w' := by
  subst hn
  have hlen := h.len.1
  have HH := hid h.old
  have HK := hid hk
  clear h hk
  by_cases h1 : l.length < 1
  · have HR := hid (show validS l = false by unfold validS; rw [decide_eq_false (by omega)]; rfl)
    have d1 : decide ((l.length : Int) < 1) = true := decide_eq_true (by omega)
    have d1' : (l.length : Int) < 1 := by omega
    clear h1
    go_enter Tryz.func36, Tryz.ntmps36
    go_wp2_with fail
    go_step3
    go_wp2_with fail
    try rw [Exit.noGoto_ret]
    go_ret
    exact ⟨ret_bool HR.out.symm, by go_grown⟩
  by_cases h2 : 6 < l.length
  · have HR := hid (show validS l = false by unfold validS; rw [decide_eq_false (show ¬ l.length ≤ 6 by omega)]; simp)
    have d1' : ¬ (l.length : Int) < 1 := by omega
    have d2' : 6 < (l.length : Int) := by omega
    have d1 : decide ((l.length : Int) < 1) = false := decide_eq_false d1'
    have d2 : decide (6 < (l.length : Int)) = true := decide_eq_true d2'
    clear h1 h2
    go_enter Tryz.func36, Tryz.ntmps36
    go_wp2_with fail
    go_step3
    go_wp2_with fail
    try rw [Exit.noGoto_ret]
    go_ret
    exact ⟨ret_bool HR.out.symm, by go_grown⟩
  have d1' : ¬ (l.length : Int) < 1 := by omega
  have d2' : ¬ 6 < (l.length : Int) := by omega
  have d1 : decide ((l.length : Int) < 1) = false := decide_eq_false d1'
  have d2 : decide (6 < (l.length : Int)) = false := decide_eq_false d2'
  have H16 := hid (show 1 ≤ l.length ∧ l.length ≤ 6 by omega)
  clear h1 h2
  go_enter Tryz.func36, Tryz.ntmps36
  go_wp2_with fail
  go_step3
  go_wp2_with fail
  go_step3
  go_upto_region 5 with (fail)
  refine wp_gen fun W hW => ?_
  have HB := hid (show Below w.heap.size w W by rw [hW]; go_grown)
  clear hW
  go_wp2_with fail
  go_loopw [3, 4, 17] (fun p r q wr => ∃ (i : Nat) (P : Int), i ≤ l.length ∧ p = .bool true ∧ q = .int .i64 (i : Int) ∧ r = .int .i64 P ∧ Hid (PrOk l i P) ∧ Hid (SoFar i (sgOk l)) ∧ Below w.heap.size w wr) (fun _ _ q _ => l.length - (intOf q).toNat)
  case atStart => exact ⟨0, 1, Nat.zero_le _, rfl, rfl, rfl, PrOk.zero l, SoFar.zero _, HB.out⟩
  case round =>
    obtain ⟨i, P, hi, rfl, rfl, rfl, HP, HS, hb⟩ := hrel
    have HBL := hid hb
    clear hb
    by_cases hlt : i < l.length
    · have hii : (i : Int) < l.length := by omega
      have HI6 := hid (show i < 6 by have := H16.out; omega)
      have HLT := hid hlt
      have HHr := hid (HH.out.any HBL.out)
      obtain ⟨b, o, s, rfl, hlb, HX, x0, x1, x2⟩ := HHr.out.get hlt
      have hnm := name_any s.name wr (HK.out.below HBL.out HK.out.pos)
      have HOK := hid (show sgOk l i = (nameB s.name && decide (2 ≤ s.size) && decide (s.size ≤ 4) && decide (i ≤ findN l s.name)) by unfold sgOk; rw [HX.out])
      have HNAME := hid (show (l.getD i default).name = s.name by rw [HX.out])
      have HSIZE := hid (show (l.getD i default).size = s.size by rw [HX.out])
      clear HX
      cases hq : nameB s.name
      · have HR := hid (sg_bad HLT.out (by rw [HOK.out, hq]; rfl))
        rw [hq] at hnm
        have HN := hid hnm
        clear hnm hq
        go_wp2_with (go_at_call 60; (with_reducible refine HN.out.mono ?_); rintro e w2 ⟨rfl, hb2⟩; have HB2 := hid (HBL.out.trans (hb2.mono HBL.out.size)); clear hb2)
        try rw [Exit.noGoto_ret]
        go_ret
        exact ⟨ret_bool HR.out.symm, HB2.out⟩
      rw [hq] at hnm
      have HN := hid hnm
      have HQ := hid hq
      clear hnm hq
      by_cases hs2 : s.size < 2
      · have HR := hid (sg_bad HLT.out (by rw [HOK.out, decide_eq_false (show ¬ 2 ≤ s.size by omega)]; simp))
        go_wp2_with (go_at_call 60; (with_reducible refine HN.out.mono ?_); rintro e w2 ⟨rfl, hb2⟩; have y0 := (hb2.cell (p := ⟨b, o + i * 3, none⟩) hlb).trans x0; have y2 := (hb2.cell (p := ⟨b, o + i * 3 + 2, none⟩) hlb).trans x2; have hl2 := Nat.lt_of_lt_of_le hlb hb2.size; have HB2 := hid (HBL.out.trans (hb2.mono HBL.out.size)); have HHr2 := hid (HHr.out.any hb2); clear hb2 x0 x1 x2 hlb)
        try rw [Exit.noGoto_ret]
        go_ret
        exact ⟨ret_bool HR.out.symm, HB2.out⟩
      by_cases hs4 : 4 < s.size
      · have HR := hid (sg_bad HLT.out (by rw [HOK.out, decide_eq_false (show ¬ s.size ≤ 4 by omega)]; simp))
        go_wp2_with (go_at_call 60; (with_reducible refine HN.out.mono ?_); rintro e w2 ⟨rfl, hb2⟩; have y0 := (hb2.cell (p := ⟨b, o + i * 3, none⟩) hlb).trans x0; have y2 := (hb2.cell (p := ⟨b, o + i * 3 + 2, none⟩) hlb).trans x2; have hl2 := Nat.lt_of_lt_of_le hlb hb2.size; have HB2 := hid (HBL.out.trans (hb2.mono HBL.out.size)); have HHr2 := hid (HHr.out.any hb2); clear hb2 x0 x1 x2 hlb)
        try rw [Exit.noGoto_ret]
        go_ret
        exact ⟨ret_bool HR.out.symm, HB2.out⟩
      have HW := hid (HP.out.wrap (s := s.size) HI6.out (by omega) (by omega))
      have HPN := hid (HP.out.succ HLT.out HI6.out HSIZE.out (by omega) (by omega))
      have HS24 := hid (show 2 ≤ s.size ∧ s.size ≤ 4 by omega)
      go_wp2_with (go_at_call 60; (with_reducible refine HN.out.mono ?_); rintro e w2 ⟨rfl, hb2⟩; have y0 := (hb2.cell (p := ⟨b, o + i * 3, none⟩) hlb).trans x0; have y2 := (hb2.cell (p := ⟨b, o + i * 3 + 2, none⟩) hlb).trans x2; have hl2 := Nat.lt_of_lt_of_le hlb hb2.size; have HB2 := hid (HBL.out.trans (hb2.mono HBL.out.size)); have HHr2 := hid (HHr.out.any hb2); clear hb2 x0 x1 x2 hlb)
      have HY0 := hid y0
      have HY2 := hid y2
      have HL2 := hid hl2
      clear y0 y2 hl2 hs2 hs4
      obtain ⟨wi, hwi⟩ : ∃ wi, wi = w2 := ⟨_, rfl⟩
      rw [← hwi] at HB2 HHr2 HY0 HY2 HL2 ⊢
      clear hwi
      go_loopw [3, 44] (fun p q wr => ∃ k : Nat, k ≤ i ∧ p = .bool true ∧ q = .int .i64 (k : Int) ∧ Hid (Drawn wi wr) ∧ Hid (∀ j, j < k → (l.getD j default).name ≠ s.name)) (fun _ q _ => i - (intOf q).toNat)
      case atStart => exact ⟨0, Nat.zero_le _, rfl, rfl, Drawn.refl _, fun j h => absurd h (Nat.not_lt_zero _)⟩
      case round =>
        obtain ⟨k, hki, rfl, rfl, HD, HALL⟩ := hrel
        have HBD := hid (HD.out.below wi.heap.size)
        have HH3 := hid (HHr2.out.any HBD.out)
        have z0 := (HBD.out.cell (p := ⟨b, o + i * 3, none⟩) HL2.out).trans HY0.out
        have z2 := (HBD.out.cell (p := ⟨b, o + i * 3 + 2, none⟩) HL2.out).trans HY2.out
        by_cases hk : k < i
        · have hkk : (k : Int) < (i : Int) := by omega
          have hkn : (k : Int) < (l.length : Int) := by omega
          obtain ⟨b', o', t, he, hlt', HT, t0, t1, t2⟩ := HH3.out.get (k := k) (by have := HLT.out; omega)
          injection he with he
          injection he with hb' ho' _
          subst hb' ho'
          have HTN := hid (show (l.getD k default).name = t.name by rw [HT.out])
          clear HT
          by_cases ht : t.name = s.name
          · have d3 : (t.name.toList == s.name.toList) = true := bytes_ext.2 ht
            have HR := hid (sg_bad HLT.out (by
              rw [HOK.out, decide_eq_false (show ¬ i ≤ findN l s.name by
                have := findN_le (l := l) (s := s.name) (k := k) (by have := HLT.out; omega) (by rw [HTN.out]; exact ht)
                omega)]
              simp))
            have HDD := hid HD.out
            clear ht
            go_upto_region 13 with (fail)
            go_quiet (fail)
            go_wp2_with fail
            try rw [Exit.noGoto_ret]
            go_ret
            exact ⟨ret_bool HR.out.symm, HB2.out.trans (((HD.out.drewN _).below _).mono HB2.out.size)⟩
          · have d3 : (t.name.toList == s.name.toList) = false := by
              cases hb : (t.name.toList == s.name.toList)
              · rfl
              · exact absurd (bytes_ext.1 hb) ht
            have HNE := hid ht
            clear ht
            go_upto_region 13 with (fail)
            go_quiet (fail)
            go_wp2_with fail
            go_roundw
            case rel =>
              refine ⟨k + 1, by omega, rfl, by go_num, HD.out.drewN _, fun j hj => ?_⟩
              by_cases e : j = k
              · rw [e, HTN.out]; exact HNE.out
              · exact HALL.out j (by omega)
            case measure => simp [intOf]; omega
        · have hkk : ¬ (k : Int) < (i : Int) := by omega
          have HOKT := hid (show sgOk l i = true by
            rw [HOK.out, HQ.out, decide_eq_true HS24.out.1, decide_eq_true HS24.out.2, decide_eq_true (findN_ge (by have := HLT.out; omega) fun j hj => HALL.out j (by omega))]
            rfl)
          have hwr := HW.out
          go_wp2_with fail
          go_roundw
          case rel => exact ⟨i + 1, P * s.size, by have := HLT.out; omega, rfl, by go_num, (by first | rfl | rw [hwr]), HPN.out, HS.out.succ HOKT.out, HB2.out.trans (HBD.out.mono HB2.out.size)⟩
          case measure => simp [intOf]; omega
    · have hii : ¬ (i : Int) < l.length := by omega
      have HPR := hid (show P = prodS l by have := HP.out.is; rw [List.take_of_length_le (by omega)] at this; exact this)
      have HV := hid (show validS l = decide (P ≤ 64) by
        unfold validS
        rw [decide_eq_true H16.out.1, decide_eq_true H16.out.2, HS.out.all (by omega), ← HPR.out]; rfl)
      go_wp2_with fail
      try rw [Exit.noGoto_ret]
      go_ret
      exact ⟨ret_bool HV.out.symm, HBL.out⟩
end Go.Proofs.YtdakdpfofgkjoaaGreatDoor
