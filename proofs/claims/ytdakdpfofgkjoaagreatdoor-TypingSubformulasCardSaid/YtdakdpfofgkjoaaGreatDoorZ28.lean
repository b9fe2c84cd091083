/-
  Canonical forms, plain: what is canonical, and that canonical forms are.
  The plain laws of FormulaCanon and FormulaLattice.
  Walk of connect, Or and Canon.
  The plain law of FormulaDuality: canonical forms of negations.
-/
import Derived.Test.YtdakdpfofgkjoaaGreatDoorZ26
import Derived.Test.YtdakdpfofgkjoaaGreatDoorZ27
set_option linter.unusedVariables false
set_option linter.unusedSimpArgs false
namespace Go.Proofs.YtdakdpfofgkjoaaGreatDoor

structure CanNode (f : Fm) : Prop where
  bd : f.bound = 0
  leaf : f.op = 1 ∨ f.op = 2 → f.args = [] ∧ f.name = ⟨#[]⟩ ∧ f.val = 0
  set : f.op = 5 ∨ f.op = 6 → AscF f.args ∧ 2 ≤ f.args.length ∧ oppB f.args = false ∧ f.name = ⟨#[]⟩ ∧ f.val = 0 ∧ ∀ g, g ∈ f.args → g.op ≠ f.op ∧ g.op ≠ unitZ f.op ∧ g.op ≠ zeroZ f.op
  next : f.op = 8 → isC (f.args.getD 0 default) = false
  til : f.op = 9 → isC (f.args.getD 1 default) = false ∧ (f.args.getD 0 default).op ≠ 2
  rel : f.op = 10 → isC (f.args.getD 1 default) = false ∧ (f.args.getD 0 default).op ≠ 1
inductive Can : Fm → Prop where
  | mk (f : Fm) (node : CanNode f) (args : ∀ g, g ∈ f.args → Can g) : Can f
theorem Can.node {f : Fm} (h : Can f) : CanNode f := by cases h; assumption
theorem Can.arg {f : Fm} (h : Can f) : ∀ g, g ∈ f.args → Can g := by cases h; assumption
theorem can_leaf {o : Int} (h : o = 1 ∨ o = 2) : Can (opF o []) := by
  refine .mk _ ⟨rfl, fun _ => ⟨rfl, rfl, rfl⟩, fun e => ?_, fun e => ?_, fun e => ?_, fun e => ?_⟩ fun g hg => by cases hg
  all_goals
    have e' := e
    simp only [opF, Fm.op] at e'
    omega
theorem unit_12 (op : Int) : unitZ op = 1 ∨ unitZ op = 2 := by unfold unitZ; split <;> omega
theorem zero_12 (op : Int) : zeroZ op = 1 ∨ zeroZ op = 2 := by unfold zeroZ; split <;> omega
theorem unit_zero (op : Int) : unitZ op ≠ zeroZ op := by unfold unitZ zeroZ; split <;> omega
theorem oppB_iff {gs : List Fm} : oppB gs = true ↔ ∃ x, x ∈ gs ∧ x.op = 4 ∧ x.args.getD 0 default ∈ gs := by
  constructor
  · intro h
    unfold oppB at h
    have hn : ¬ allN gs.length (fun i => !oppAt gs i) = true := by
      intro e; rw [e] at h; cases h
    rw [allN_true] at hn
    have : ∃ i, i < gs.length ∧ oppAt gs i = true := by
      refine Classical.byContradiction fun hc => hn fun j hj => ?_
      cases ho : oppAt gs j
      · rfl
      · exact absurd ⟨j, hj, ho⟩ hc
    obtain ⟨i, hi, ho⟩ := this
    unfold oppAt at ho
    rw [Bool.and_eq_true, decide_eq_true_eq, List.any_eq_true] at ho
    obtain ⟨h4, z, hz, he⟩ := ho
    have he : z = (gs.getD i default).args.getD 0 default := cmp_zero.1 (eq_of_beq he)
    exact ⟨_, getD_memF hi, h4, by rw [← he]; exact hz⟩
  · rintro ⟨x, hx, h4, hm⟩
    obtain ⟨i, hi, e⟩ := List.getElem_of_mem hx
    have e2 : gs.getD i default = x := by rw [← e]; simp [List.getD_eq_getElem?_getD, List.getElem?_eq_getElem hi]
    refine oppB_yes hi ?_
    unfold oppAt
    rw [e2, decide_eq_true h4, Bool.true_and, List.any_eq_true]
    exact ⟨_, hm, by rw [cmp_zero.2 rfl]; rfl⟩
theorem oppB_mono {gs hs : List Fm} (h : ∀ x, x ∈ gs → x ∈ hs) (ho : oppB gs = true) : oppB hs = true := by
  obtain ⟨x, hx, h4, hm⟩ := oppB_iff.1 ho
  exact oppB_iff.2 ⟨x, h x hx, h4, h _ hm⟩
/-- The operators of what a list of canonical formulas gives. -/
theorem flat_ops {op : Int} (hop : op = 5 ∨ op = 6) {l : List Fm} (h : ∀ g, g ∈ l → Can g) (hz : ∀ g, g ∈ l → g.op ≠ zeroZ op) {x : Fm} (hx : x ∈ flatZ op l) : x.op ≠ op ∧ x.op ≠ unitZ op ∧ x.op ≠ zeroZ op := by
  unfold flatZ at hx
  rw [List.mem_flatMap] at hx
  obtain ⟨g, hg, hx⟩ := hx
  unfold partZ at hx
  split at hx
  · rename_i e
    have hs := (h g hg).node.set (by rw [e]; exact hop)
    have := hs.2.2.2.2.2 x hx
    rw [e] at this
    exact this
  · rename_i e
    split at hx
    · cases hx
    · rename_i e2
      rw [List.mem_singleton] at hx
      subst hx
      exact ⟨e, e2, hz _ hg⟩
theorem flat_can {op : Int} {l : List Fm} (h : ∀ g, g ∈ l → Can g) {x : Fm} (hx : x ∈ flatZ op l) : Can x := by
  obtain ⟨g, hg, hh⟩ := flatZ_mem hx
  rcases hh with ⟨_, hh⟩ | rfl
  · exact (h g hg).arg x hh
  · exact h _ hg
theorem anyZ_iff {op : Int} {l : List Fm} : (l.any fun x => decide (x.op = zeroZ op)) = true ↔ ∃ g, g ∈ l ∧ g.op = zeroZ op := by
  rw [List.any_eq_true]
  exact ⟨fun ⟨g, hg, h⟩ => ⟨g, hg, of_decide_eq_true h⟩, fun ⟨g, hg, h⟩ => ⟨g, hg, decide_eq_true h⟩⟩
/-- The three kinds of a conjunction or disjunction. -/
theorem joinZ_cases {op : Int} (hop : op = 5 ∨ op = 6) {l : List Fm} (h : ∀ g, g ∈ l → Can g) :
    (((∃ g, g ∈ l ∧ g.op = zeroZ op) ∨ oppB (flatZ op l) = true) ∧ joinZ op l = opF (zeroZ op) []) ∨
    ((∀ g, g ∈ l → g.op ≠ zeroZ op) ∧ oppB (flatZ op l) = false ∧ (∀ x, x ∈ setF (flatZ op l) → x.op ≠ op ∧ x.op ≠ unitZ op ∧ x.op ≠ zeroZ op) ∧
      ((setF (flatZ op l) = [] ∧ joinZ op l = opF (unitZ op) []) ∨ (∃ x, setF (flatZ op l) = [x] ∧ joinZ op l = x) ∨ (2 ≤ (setF (flatZ op l)).length ∧ joinZ op l = opF op (setF (flatZ op l))))) := by
  by_cases hz : ∃ g, g ∈ l ∧ g.op = zeroZ op
  · refine .inl ⟨.inl hz, ?_⟩
    unfold joinZ
    rw [if_pos (anyZ_iff.2 hz)]
  · have hz' : ∀ g, g ∈ l → g.op ≠ zeroZ op := fun g hg e => hz ⟨g, hg, e⟩
    have hj : joinZ op l = setZ op (setF (flatZ op l)) := by unfold joinZ; rw [if_neg fun e => hz (anyZ_iff.1 e)]
    by_cases ho : oppB (flatZ op l) = true
    · refine .inl ⟨.inr ho, ?_⟩
      rw [hj]
      unfold setZ
      rw [if_pos (oppB_mono (fun x hx => (setF_mem _ _).2 hx) ho)]
    · have ho' : ¬ oppB (setF (flatZ op l)) = true := fun e => ho (oppB_mono (fun x hx => (setF_mem _ _).1 hx) e)
      refine .inr ⟨hz', by simpa using ho, fun x hx => flat_ops hop h hz' ((setF_mem _ _).1 hx), ?_⟩
      rw [hj]
      unfold setZ
      rw [if_neg ho']
      rcases hS : setF (flatZ op l) with _ | ⟨x, _ | ⟨y, s⟩⟩
      · exact .inl ⟨rfl, rfl⟩
      · exact .inr (.inl ⟨x, rfl, rfl⟩)
      · exact .inr (.inr ⟨by simp, rfl⟩)
theorem joinZ_can {op : Int} (hop : op = 5 ∨ op = 6) {l : List Fm} (h : ∀ g, g ∈ l → Can g) : Can (joinZ op l) := by
  rcases joinZ_cases hop h with ⟨_, e⟩ | ⟨hz, ho, hx, ⟨_, e⟩ | ⟨x, hs, e⟩ | ⟨hl, e⟩⟩
  · rw [e]; exact can_leaf (zero_12 op)
  · rw [e]; exact can_leaf (unit_12 op)
  · rw [e]; exact flat_can h ((setF_mem _ _).1 (by rw [hs]; simp))
  · rw [e]
    refine .mk _ ⟨rfl, fun h' => ?_, fun _ => ⟨setF_asc _, hl, ?_, rfl, rfl, hx⟩, fun e' => ?_, fun e' => ?_, fun e' => ?_⟩ fun g hg => flat_can h ((setF_mem _ _).1 hg)
    · simp only [opF, Fm.op] at h'; omega
    · cases hb : oppB (opF op (setF (flatZ op l))).args
      · rfl
      · rw [oppB_mono (fun x hx => (setF_mem _ _).1 hx) hb] at ho; cases ho
    · have e' : op = 8 := e'; omega
    · have e' : op = 9 := e'; omega
    · have e' : op = 10 := e'; omega
theorem canonZ_can (f : Fm) : ∀ ins, allI bareQ ins f → Can (canonZ f) := by
  induction f using Fm.ind with
  | h f ih =>
    intro ins h
    rw [canonZ_eq]
    obtain ⟨h1, h2⟩ := allI_iff.1 h
    obtain ⟨p1, p2, p3, p4⟩ := bareQ_parts h1
    obtain ⟨s1, s2, s3, s4, s5, s6, s7, s8⟩ := shp_out p2
    have hcs : ∀ g, g ∈ f.args.map canonZ → Can g := fun g hg => by
      obtain ⟨x, hx, rfl⟩ := List.mem_map.1 hg
      exact ih x hx _ (h2 x hx)
    have hat : ∀ i, i < f.args.length → Can ((f.args.map canonZ).getD i default) := fun i hi => hcs _ (getD_memF (by simpa using hi))
    unfold canO
    split
    · rename_i hop; exact joinZ_can hop hcs
    · rename_i hop
      split
      · rename_i h8; rw [h8.1] at s2; exact hat 0 s2
      · rename_i h8
        split
        · rename_i h9; rw [h9.1] at s2; exact hat 1 s2
        · rename_i h9
          split
          · rename_i h10; rw [h10.1] at s2; exact hat 1 s2
          · rename_i h10
            refine .mk _ ⟨rfl, fun e => ?_, fun e => absurd e hop, fun e => ?_, fun e => ?_, fun e => ?_⟩ hcs
            · have e : f.op = 1 ∨ f.op = 2 := e
              have hm : (formZ f.op).most = 0 := by rcases e with e | e <;> rw [e] <;> rfl
              have hv : (formZ f.op).val = 0 := by rcases e with e | e <;> rw [e] <;> rfl
              have hn : (formZ f.op).named = false := by rcases e with e | e <;> rw [e] <;> rfl
              have ha := no_arg hm p2
              refine ⟨by show f.args.map canonZ = []; rw [ha]; rfl, ?_, by show f.val = 0; omega⟩
              show f.name = _
              unfold nameOk at s8
              rw [hn] at s8
              exact empty_name s8
            · have e : f.op = 8 := e
              show isC ((f.args.map canonZ).getD 0 default) = false
              cases hc : isC ((f.args.map canonZ).getD 0 default)
              · rfl
              · exact absurd ⟨e, hc⟩ h8
            · have e : f.op = 9 := e
              show isC ((f.args.map canonZ).getD 1 default) = false ∧ ((f.args.map canonZ).getD 0 default).op ≠ 2
              refine ⟨?_, fun h' => h9 ⟨e, .inr h'⟩⟩
              cases hc : isC ((f.args.map canonZ).getD 1 default)
              · rfl
              · exact absurd ⟨e, .inl hc⟩ h9
            · have e : f.op = 10 := e
              show isC ((f.args.map canonZ).getD 1 default) = false ∧ ((f.args.map canonZ).getD 0 default).op ≠ 1
              refine ⟨?_, fun h' => h10 ⟨e, .inr h'⟩⟩
              cases hc : isC ((f.args.map canonZ).getD 1 default)
              · rfl
              · exact absurd ⟨e, .inl hc⟩ h10
theorem joinZ_congr {op : Int} {l m : List Fm} (hz : (∃ g, g ∈ l ∧ g.op = zeroZ op) ↔ (∃ g, g ∈ m ∧ g.op = zeroZ op)) (h : ∀ x, x ∈ flatZ op l ↔ x ∈ flatZ op m) : joinZ op l = joinZ op m := by
  have e : setF (flatZ op l) = setF (flatZ op m) := (setF_asc _).ext (setF_asc _) fun x => by rw [setF_mem, setF_mem, h]
  unfold joinZ
  rw [e]
  have : (l.any fun x => decide (x.op = zeroZ op)) = (m.any fun x => decide (x.op = zeroZ op)) := by
    rw [Bool.eq_iff_iff, anyZ_iff, anyZ_iff, hz]
  rw [this]
theorem flatZ_append (op : Int) (l m : List Fm) : flatZ op (l ++ m) = flatZ op l ++ flatZ op m := by unfold flatZ; rw [List.flatMap_append]
theorem flatZ_one (op : Int) (x : Fm) (m : List Fm) : flatZ op (x :: m) = partZ op x ++ flatZ op m := by unfold flatZ; rw [List.flatMap_cons]
theorem flatZ_self {op : Int} {l : List Fm} (h : ∀ g, g ∈ l → g.op ≠ op ∧ g.op ≠ unitZ op) : flatZ op l = l := by
  induction l with
  | nil => rfl
  | cons x l ih =>
    have hx := h x (by simp)
    rw [flatZ_one, ih fun g hg => h g (by simp [hg])]
    unfold partZ
    rw [if_neg hx.1, if_neg hx.2]
    rfl
theorem setF_self {l : List Fm} (h : AscF l) : setF l = l := (h.set fun _ => Iff.rfl).symm
/-- A canonical conjunction is that of its parts. -/
theorem joinZ_self {op : Int} (hop : op = 5 ∨ op = 6) {f : Fm} (h : CanNode f) (ho : f.op = op) : joinZ op f.args = f := by
  obtain ⟨h1, h2, h3, h4, h5, h6⟩ := h.set (by rw [ho]; exact hop)
  rw [ho] at h6
  have e : flatZ op f.args = f.args := flatZ_self fun g hg => ⟨(h6 g hg).1, (h6 g hg).2.1⟩
  unfold joinZ
  rw [if_neg, e, setF_self h1]
  · unfold setZ
    rw [if_neg (by rw [h3]; exact Bool.false_ne_true)]
    have hf : opF op f.args = f := by
      conv => rhs; rw [← f.eta]
      rw [ho, h4, h5, h.bd]; rfl
    rcases ha : f.args with _ | ⟨x, _ | ⟨y, s⟩⟩
    · rw [ha] at h2; simp at h2
    · rw [ha] at h2; simp at h2
    · rw [ha] at hf; exact hf
  · rw [anyZ_iff]
    rintro ⟨g, hg, e⟩
    exact (h6 g hg).2.2 e
theorem Can.canonZ {f : Fm} (h : Can f) : canonZ f = f := by
  induction h with
  | mk f node args ih =>
    have ha : f.args.map Go.Proofs.YtdakdpfofgkjoaaGreatDoor.canonZ = f.args := by
      conv => rhs; rw [← List.map_id f.args]
      exact List.map_congr_left ih
    rw [canonZ_eq, ha]
    unfold canO
    split
    · rename_i hop; exact joinZ_self hop node rfl
    · split
      · rename_i h8; rw [node.next h8.1] at h8; cases h8.2
      · split
        · rename_i h9
          rcases h9.2 with e | e
          · rw [(node.til h9.1).1] at e; cases e
          · exact absurd e (node.til h9.1).2
        · split
          · rename_i h9
            rcases h9.2 with e | e
            · rw [(node.rel h9.1).1] at e; cases e
            · exact absurd e (node.rel h9.1).2
          · conv => rhs; rw [← f.eta]
            rw [node.bd]
theorem leaf_eq {f : Fm} (h : CanNode f) (ho : f.op = 1 ∨ f.op = 2) : f = opF f.op [] := by
  obtain ⟨h1, h2, h3⟩ := h.leaf ho
  conv => lhs; rw [← f.eta]
  rw [h1, h2, h3, h.bd]; rfl
theorem not_own_arg {c : Fm} (h4 : c.op = 4) : c.args.getD 0 default ≠ c := by
  intro e
  by_cases hl : 0 < c.args.length
  · have := arg_size hl
    rw [e] at this
    omega
  · have : c.args.getD 0 default = default := by simp [List.getD, List.getElem?_eq_none (Nat.le_of_not_lt hl)]
    rw [this] at e
    rw [← e] at h4
    cases h4
theorem joinZ_one {op : Int} (hop : op = 5 ∨ op = 6) {c : Fm} (h : Can c) : joinZ op [c] = c := by
  by_cases hz : c.op = zeroZ op
  · unfold joinZ
    rw [if_pos (anyZ_iff.2 ⟨c, by simp, hz⟩), ← hz]
    exact (leaf_eq h.node (by rw [hz]; exact zero_12 op)).symm
  · by_cases ho : c.op = op
    · rw [← joinZ_self hop h.node ho]
      refine joinZ_congr ⟨?_, ?_⟩ fun x => ?_
      · rintro ⟨g, hg, e⟩
        rw [List.mem_singleton] at hg
        subst hg
        rw [joinZ_self hop h.node ho] at e
        exact absurd e hz
      · rintro ⟨g, hg, e⟩
        have := (h.node.set (by rw [ho]; exact hop)).2.2.2.2.2 g hg
        rw [ho] at this
        exact absurd e this.2.2
      · have h6 := (h.node.set (by rw [ho]; exact hop)).2.2.2.2.2
        rw [ho] at h6
        rw [flatZ_self (l := c.args) fun g hg => ⟨(h6 g hg).1, (h6 g hg).2.1⟩, joinZ_self hop h.node ho, flatZ_one]
        unfold partZ flatZ
        rw [if_pos ho]
        simp
    · by_cases hu : c.op = unitZ op
      · have e : flatZ op [c] = [] := by rw [flatZ_one]; unfold partZ flatZ; rw [if_neg ho, if_pos hu]; rfl
        unfold joinZ
        rw [if_neg, e]
        · unfold setZ
          show opF (unitZ op) [] = c
          rw [← hu]
          exact (leaf_eq h.node (by rw [hu]; exact unit_12 op)).symm
        · rw [anyZ_iff]
          rintro ⟨g, hg, e'⟩
          rw [List.mem_singleton] at hg
          subst hg
          exact hz e'
      · have e : flatZ op [c] = [c] := flatZ_self fun g hg => by rw [List.mem_singleton] at hg; subst hg; exact ⟨ho, hu⟩
        unfold joinZ
        rw [if_neg, e]
        · have hs : setF [c] = [c] := rfl
          rw [hs]
          unfold setZ
          rw [if_neg]
          intro e
          obtain ⟨x, hx, h4, hm⟩ := oppB_iff.1 e
          rw [List.mem_singleton] at hx hm
          subst hx
          exact not_own_arg h4 hm
        · rw [anyZ_iff]
          rintro ⟨g, hg, e'⟩
          rw [List.mem_singleton] at hg
          subst hg
          exact hz e'
/-- A member may be a conjunction itself. -/
theorem joinZ_nest {op : Int} (hop : op = 5 ∨ op = 6) {l : List Fm} (h : ∀ g, g ∈ l → Can g) (m : List Fm) : joinZ op (joinZ op l :: m) = joinZ op (l ++ m) := by
  have hzo : zeroZ op ≠ op := by rcases hop with rfl | rfl <;> decide
  have huo : unitZ op ≠ op := by rcases hop with rfl | rfl <;> decide
  rcases joinZ_cases hop h with ⟨hz, e⟩ | ⟨hz, ho, hx, hc⟩
  · have hl : joinZ op (joinZ op l :: m) = opF (zeroZ op) [] := by
      rw [e]
      conv => lhs; unfold joinZ
      rw [if_pos (anyZ_iff.2 ⟨opF (zeroZ op) [], by simp, rfl⟩)]
    rw [hl]
    by_cases hm : ∃ g, g ∈ l ++ m ∧ g.op = zeroZ op
    · unfold joinZ; rw [if_pos (anyZ_iff.2 hm)]
    · rcases hz with ⟨g, hg, hh⟩ | hz
      · exact absurd ⟨g, by simp [hg], hh⟩ hm
      · unfold joinZ
        rw [if_neg fun e => hm (anyZ_iff.1 e)]
        unfold setZ
        rw [if_pos (oppB_mono (fun x hx => (setF_mem _ _).2 (by rw [flatZ_append]; simp [hx])) hz)]
  · have key : (joinZ op l).op ≠ zeroZ op ∧ ∀ x, x ∈ partZ op (joinZ op l) ↔ x ∈ flatZ op l := by
      rcases hc with ⟨hs, e⟩ | ⟨x, hs, e⟩ | ⟨hl, e⟩
      · rw [e]
        refine ⟨unit_zero op, fun x => ?_⟩
        have : partZ op (opF (unitZ op) []) = [] := by unfold partZ; rw [if_neg (show (opF (unitZ op) []).op ≠ op from huo), if_pos (show (opF (unitZ op) []).op = unitZ op from rfl)]
        rw [this, ← setF_mem (flatZ op l), hs]
      · rw [e]
        have hh := hx x (by rw [hs]; simp)
        refine ⟨hh.2.2, fun y => ?_⟩
        have : partZ op x = [x] := by unfold partZ; rw [if_neg hh.1, if_neg hh.2.1]
        rw [this, ← setF_mem (flatZ op l), hs]
      · rw [e]
        refine ⟨fun e => hzo e.symm, fun y => ?_⟩
        have : partZ op (opF op (setF (flatZ op l))) = setF (flatZ op l) := by unfold partZ; rw [if_pos (show (opF op (setF (flatZ op l))).op = op from rfl)]; rfl
        rw [this, setF_mem]
    refine joinZ_congr ⟨?_, ?_⟩ fun x => ?_
    · rintro ⟨g, hg, e⟩
      rcases List.mem_cons.1 hg with rfl | hg
      · exact absurd e key.1
      · exact ⟨g, by simp [hg], e⟩
    · rintro ⟨g, hg, e⟩
      rcases List.mem_append.1 hg with hg | hg
      · exact absurd e (hz g hg)
      · exact ⟨g, by simp [hg], e⟩
    · rw [flatZ_one, flatZ_append, List.mem_append, List.mem_append, key.2]
theorem joinZ_perm {op : Int} {l m : List Fm} (h : ∀ x, x ∈ l ↔ x ∈ m) : joinZ op l = joinZ op m := by
  refine joinZ_congr ⟨fun ⟨g, hg, e⟩ => ⟨g, (h g).1 hg, e⟩, fun ⟨g, hg, e⟩ => ⟨g, (h g).2 hg, e⟩⟩ fun x => ?_
  unfold flatZ
  rw [List.mem_flatMap, List.mem_flatMap]
  exact ⟨fun ⟨g, hg, e⟩ => ⟨g, (h g).1 hg, e⟩, fun ⟨g, hg, e⟩ => ⟨g, (h g).2 hg, e⟩⟩
end Go.Proofs.YtdakdpfofgkjoaaGreatDoor
set_option linter.unusedVariables false
set_option linter.unusedSimpArgs false
namespace Go.Proofs.YtdakdpfofgkjoaaGreatDoor

/-- Twice the last one, nested, in a short list of arguments. -/
def twL (op : Int) (l : List Fm) : List Fm := if (op = 5 ∨ op = 6) ∧ l.length ≤ 4 then l.take (l.length - 1) ++ [opF op [l.getD (l.length - 1) default, l.getD (l.length - 1) default]] else l
def turnL (op : Int) (l : List Fm) : List Fm := if op = 5 ∨ op = 6 then l.reverse else l
mutual
def revZ : Fm → Fm
  | .mk o n v b l => .mk o n v b (twL o (turnL o (revsZ l)))
def revsZ : List Fm → List Fm
  | [] => []
  | f :: l => revZ f :: revsZ l
end
theorem revsZ_map : ∀ l : List Fm, revsZ l = l.map revZ
  | [] => by simp only [revsZ, List.map_nil]
  | f :: l => by simp only [revsZ, List.map_cons, revsZ_map l]
theorem revZ_eq (f : Fm) : revZ f = .mk f.op f.name f.val f.bound (twL f.op (turnL f.op (f.args.map revZ))) := by
  cases f
  simp only [revZ, revsZ_map, Fm.op, Fm.name, Fm.val, Fm.args, Fm.bound]
theorem joinZ_two {op : Int} (hop : op = 5 ∨ op = 6) {c : Fm} (h : Can c) : joinZ op [c, c] = c := by
  rw [joinZ_perm (m := [c]) fun x => by simp]
  exact joinZ_one hop h
theorem canonZ_op {op : Int} (hop : op = 5 ∨ op = 6) (l : List Fm) : canonZ (opF op l) = joinZ op (l.map canonZ) := by
  rw [canonZ_eq]
  unfold canO
  show (if op = 5 ∨ op = 6 then joinZ op (l.map canonZ) else _) = _
  rw [if_pos hop]
theorem canonZ_leaf {o : Int} (h : o = 1 ∨ o = 2) : canonZ (opF o []) = opF o [] := (can_leaf h).canonZ
theorem twL_canon {op : Int} {l : List Fm} (h : ∀ g, g ∈ l → Can (canonZ g)) (hl : op = 5 ∨ op = 6 → 0 < l.length) : (twL op l).map canonZ = l.map canonZ := by
  unfold twL
  split
  · rename_i hh
    have hp := hl hh.1
    have hc : Can (canonZ (l.getD (l.length - 1) default)) := h _ (getD_memF (by omega))
    rw [List.map_append, List.map_cons, List.map_nil, canonZ_op hh.1, List.map_cons, List.map_cons, List.map_nil, joinZ_two hh.1 hc]
    have e := take_succ_getD l default (k := l.length - 1) (by omega)
    rw [show l.length - 1 + 1 = l.length by omega, List.take_length] at e
    conv => rhs; rw [e]
    rw [List.map_append]; rfl
  · rfl
/-- The canonical form does not depend on order, repetition and nesting. -/
theorem canonZ_rev (f : Fm) : ∀ ins, allI bareQ ins f → canonZ (revZ f) = canonZ f := by
  induction f using Fm.ind with
  | h f ih =>
    intro ins h
    obtain ⟨h1, h2⟩ := allI_iff.1 h
    obtain ⟨p1, p2, p3, p4⟩ := bareQ_parts h1
    obtain ⟨s1, s2, s3, s4, s5, s6, s7, s8⟩ := shp_out p2
    have he : (f.args.map revZ).map canonZ = f.args.map canonZ := by
      rw [List.map_map]
      exact List.map_congr_left fun g hg => ih g hg _ (h2 g hg)
    have hcan : ∀ g, g ∈ turnL f.op (f.args.map revZ) → Can (canonZ g) := fun g hg => by
      have hg : g ∈ f.args.map revZ := by
        unfold turnL at hg
        split at hg
        · exact List.mem_reverse.1 hg
        · exact hg
      obtain ⟨x, hx, rfl⟩ := List.mem_map.1 hg
      rw [ih x hx _ (h2 x hx)]
      exact canonZ_can x _ (h2 x hx)
    have hlen : (turnL f.op (f.args.map revZ)).length = f.args.length := by
      unfold turnL; split <;> simp
    rw [revZ_eq, canonZ_eq, canonZ_eq]
    show canO f.op f.name f.val ((twL f.op (turnL f.op (f.args.map revZ))).map canonZ) = _
    rw [twL_canon hcan fun hop => by
      rw [hlen]
      have : (formZ f.op).least = 2 := by rcases hop with e | e <;> rw [e] <;> rfl
      omega]
    unfold turnL
    split
    · rename_i hop
      unfold canO
      rw [if_pos hop, if_pos hop, List.map_reverse, he]
      exact joinZ_perm fun x => by simp
    · rw [he]
/-- And and Or of loose kernels. -/
def connZ (op : Int) (l : List Fm) : Fm := if l.all looseB then (if looseB (joinZ op (l.map canonZ)) then joinZ op (l.map canonZ) else zeroF) else zeroF
theorem loose_out {f : Fm} (h : looseB f = true) : f.size ≤ 400 ∧ f.depth ≤ 60 ∧ allI bareQ false f := by
  unfold looseB at h
  rw [Bool.and_eq_true, fits_true] at h
  exact ⟨by omega, by omega, h.2⟩
theorem loose_of {f : Fm} (h1 : f.size ≤ 400) (h2 : f.depth ≤ 60) (h3 : allI bareQ false f) : looseB f = true := by
  unfold looseB
  rw [Bool.and_eq_true, fits_true]
  exact ⟨⟨by omega, by omega⟩, h3⟩
/-- The canonical form of a loose kernel is one. -/
theorem loose_canon {f : Fm} (h : looseB f = true) : looseB (canonZ f) = true := by
  obtain ⟨h1, h2, h3⟩ := loose_out h
  exact loose_of (Nat.le_trans (canonZ_size f) h1) (Nat.le_trans (canonZ_depth f) h2) (canonZ_bare f _ h3 (many_ge (by omega)))
theorem loose_can {f : Fm} (h : looseB f = true) : Can (canonZ f) := canonZ_can f _ (loose_out h).2.2
theorem kernel_out {f : Fm} (h : kernelB f = true) : f.size ≤ 60 ∧ f.depth ≤ 20 ∧ allI bareQ false f := by
  unfold kernelB at h
  rw [Bool.and_eq_true, fits_true] at h
  exact ⟨by omega, by omega, h.2⟩
theorem kernel_of {f : Fm} (h1 : f.size ≤ 60) (h2 : f.depth ≤ 20) (h3 : allI bareQ false f) : kernelB f = true := by
  unfold kernelB
  rw [Bool.and_eq_true, fits_true]
  exact ⟨⟨by omega, by omega⟩, h3⟩
theorem kernel_canon {f : Fm} (h : kernelB f = true) : kernelB (canonZ f) = true := by
  obtain ⟨h1, h2, h3⟩ := kernel_out h
  exact kernel_of (Nat.le_trans (canonZ_size f) h1) (Nat.le_trans (canonZ_depth f) h2) (canonZ_bare f _ h3 (many_ge (by omega)))
/-- Few enough canonical formulas have a loose conjunction. -/
theorem conn_eq {op : Int} (hop : op = 5 ∨ op = 6) {l : List Fm} (h : ∀ g, g ∈ l → looseB g = true) (hs : sizes (l.map canonZ) ≤ 399) (hd : depths (l.map canonZ) ≤ 59) : connZ op l = joinZ op (l.map canonZ) ∧ looseB (joinZ op (l.map canonZ)) = true := by
  have hl : looseB (joinZ op (l.map canonZ)) = true := loose_of (Nat.le_trans (joinZ_size _ _) (by omega)) (Nat.le_trans (joinZ_depth _ _) (by omega))
    (joinZ_bare hop (fun g hg => by
      obtain ⟨x, hx, rfl⟩ := List.mem_map.1 hg
      exact (loose_out (loose_canon (h x hx))).2.2) (many_ge (by omega)))
  refine ⟨?_, hl⟩
  unfold connZ
  rw [if_pos (List.all_eq_true.2 h), if_pos hl]
def lowB (f : Fm) : Bool := decide (f.size ≤ 100) && decide (f.depth ≤ 50) && looseB f
theorem low_out {f : Fm} (h : lowB f = true) : f.size ≤ 100 ∧ f.depth ≤ 50 ∧ looseB f = true := by
  unfold lowB at h
  simp only [Bool.and_eq_true, decide_eq_true_eq] at h
  exact ⟨h.1.1, h.1.2, h.2⟩
/-- A small canonical loose kernel. -/
structure Low (c : Fm) (n d : Nat) : Prop where
  can : Can c
  loose : looseB c = true
  size : c.size ≤ n
  depth : c.depth ≤ d
theorem Low.mono {c : Fm} {n d n' d' : Nat} (h : Low c n d) (h1 : n ≤ n') (h2 : d ≤ d') : Low c n' d' := ⟨h.can, h.loose, Nat.le_trans h.size h1, Nat.le_trans h.depth h2⟩
theorem low_canon {f : Fm} (h : lowB f = true) : Low (canonZ f) 100 50 := by
  obtain ⟨h1, h2, h3⟩ := low_out h
  exact ⟨loose_can h3, loose_canon h3, Nat.le_trans (canonZ_size f) h1, Nat.le_trans (canonZ_depth f) h2⟩
theorem conn_two {op : Int} (hop : op = 5 ∨ op = 6) {f g : Fm} {n m d : Nat} (hf : looseB f = true) (hg : looseB g = true) (h1 : Low (canonZ f) n d) (h2 : Low (canonZ g) m d) (hs : n + m ≤ 399) (hd : d ≤ 59) :
    connZ op [f, g] = joinZ op [canonZ f, canonZ g] ∧ Low (connZ op [f, g]) (1 + n + m) (1 + d) := by
  have e1 := h1.size
  have e2 := h2.size
  have e3 := h1.depth
  have e4 := h2.depth
  have hss : sizes [canonZ f, canonZ g] ≤ n + m := by simp only [sizes]; omega
  have hdd : depths [canonZ f, canonZ g] ≤ d := by simp only [depths]; omega
  obtain ⟨he, hl⟩ := conn_eq hop (l := [f, g]) (by rintro x hx; simp at hx; rcases hx with rfl | rfl <;> assumption) (Nat.le_trans hss hs) (Nat.le_trans hdd hd)
  refine ⟨he, ?_⟩
  rw [he]
  exact ⟨joinZ_can hop (by rintro x hx; simp at hx; rcases hx with rfl | rfl; exact h1.can; exact h2.can), hl, Nat.le_trans (joinZ_size _ _) (by show 1 + sizes [canonZ f, canonZ g] ≤ _; omega), Nat.le_trans (joinZ_depth _ _) (by show 1 + depths [canonZ f, canonZ g] ≤ _; omega)⟩
theorem conn_three {op : Int} (hop : op = 5 ∨ op = 6) {f g h : Fm} (hf : lowB f = true) (hg : lowB g = true) (hh : lowB h = true) : connZ op [f, g, h] = joinZ op [canonZ f, canonZ g, canonZ h] := by
  have h1 := low_canon hf
  have h2 := low_canon hg
  have h3 := low_canon hh
  have e1 := h1.size
  have e2 := h2.size
  have e3 := h3.size
  have e4 := h1.depth
  have e5 := h2.depth
  have e6 := h3.depth
  exact (conn_eq hop (l := [f, g, h]) (by rintro x hx; simp at hx; rcases hx with rfl | rfl | rfl; exact (low_out hf).2.2; exact (low_out hg).2.2; exact (low_out hh).2.2)
    (by show sizes [canonZ f, canonZ g, canonZ h] ≤ _; simp only [sizes]; omega) (by show depths [canonZ f, canonZ g, canonZ h] ≤ _; simp only [depths]; omega)).1
/-- Commutative, associative, idempotent, with a unit and a zero. -/
theorem lattice {op : Int} (hop : op = 5 ∨ op = 6) {f g h : Fm} (hf : lowB f = true) (hg : lowB g = true) (hh : lowB h = true) :
    connZ op [f, g] = connZ op [g, f] ∧ connZ op [connZ op [f, g], h] = connZ op [f, connZ op [g, h]] ∧ connZ op [f, g, h] = connZ op [connZ op [f, g], h] ∧ connZ op [f, f] = canonZ f ∧
      connZ op [f, opF (unitZ op) []] = canonZ f ∧ connZ op [opF (unitZ op) [], f] = canonZ f ∧ (connZ op [f, opF (zeroZ op) []]).op = zeroZ op ∧ (connZ op [opF (zeroZ op) [], f]).op = zeroZ op := by
  have lf := (low_out hf).2.2
  have lg := (low_out hg).2.2
  have lh := (low_out hh).2.2
  have h1 := low_canon hf
  have h2 := low_canon hg
  have h3 := low_canon hh
  obtain ⟨fg, hfg⟩ := conn_two hop lf lg h1 h2 (by omega) (by omega)
  obtain ⟨gf, hgf⟩ := conn_two hop lg lf h2 h1 (by omega) (by omega)
  obtain ⟨gh, hgh⟩ := conn_two hop lg lh h2 h3 (by omega) (by omega)
  obtain ⟨ff, hff⟩ := conn_two hop lf lf h1 h1 (by omega) (by omega)
  have cfg : canonZ (connZ op [f, g]) = connZ op [f, g] := hfg.can.canonZ
  have cgh : canonZ (connZ op [g, h]) = connZ op [g, h] := hgh.can.canonZ
  obtain ⟨fgh, _⟩ := conn_two (n := 201) (m := 100) (d := 51) hop hfg.loose lh (f := connZ op [f, g]) (by rw [cfg]; exact hfg.mono (n' := 201) (d' := 51) (by omega) (by omega)) (h3.mono (by omega) (by omega)) (by omega) (by omega)
  obtain ⟨fgh', _⟩ := conn_two (n := 100) (m := 201) (d := 51) hop lf hgh.loose (g := connZ op [g, h]) (h1.mono (d' := 51) (Nat.le_refl _) (by omega)) (by rw [cgh]; exact hgh.mono (n' := 201) (d' := 51) (by omega) (by omega)) (by omega) (by omega)
  have f3 := conn_three hop hf hg hh
  have cab : ∀ x, x ∈ [canonZ f, canonZ g] → Can x := by rintro x hx; simp at hx; rcases hx with rfl | rfl; exact h1.can; exact h2.can
  have cbc : ∀ x, x ∈ [canonZ g, canonZ h] → Can x := by rintro x hx; simp at hx; rcases hx with rfl | rfl; exact h2.can; exact h3.can
  have leafU : ∀ {o : Int}, (o = 1 ∨ o = 2) → looseB (opF o []) = true := fun ho => loose_of (by rw [leaf_size]; omega) (by rw [leaf_depth]; omega) (allI_leaf ho)
  have leafL : ∀ {o : Int}, (o = 1 ∨ o = 2) → Low (canonZ (opF o [])) 1 50 := fun ho => by
    rw [canonZ_leaf ho]
    exact ⟨can_leaf ho, leafU ho, by rw [leaf_size]; omega, by rw [leaf_depth]; omega⟩
  have eu : joinZ op [canonZ f, opF (unitZ op) []] = canonZ f := by
    rw [← joinZ_one hop h1.can]
    conv => rhs; rw [← joinZ_one hop h1.can]
    rw [joinZ_one hop h1.can]
    refine joinZ_congr ⟨?_, ?_⟩ fun x => ?_
    · rintro ⟨y, hy, e⟩
      simp at hy
      rcases hy with rfl | rfl
      · exact ⟨_, by simp, e⟩
      · exact absurd e (unit_zero op)
    · rintro ⟨y, hy, e⟩
      simp at hy
      subst hy
      exact ⟨_, by simp, e⟩
    · rw [flatZ_one, flatZ_one, flatZ_one]
      have : partZ op (opF (unitZ op) []) = [] := by
        unfold partZ
        rw [if_neg (show ¬ (opF (unitZ op) []).op = op by rcases hop with rfl | rfl <;> decide), if_pos (show (opF (unitZ op) []).op = unitZ op from rfl)]
      rw [this]
      simp
  have ez : ∀ l, opF (zeroZ op) [] ∈ l → (joinZ op l).op = zeroZ op := fun l hl => by
    unfold joinZ
    rw [if_pos (anyZ_iff.2 ⟨_, hl, rfl⟩)]
    rfl
  refine ⟨?_, ?_, ?_, ?_, ?_, ?_, ?_, ?_⟩
  · rw [fg, gf]; exact joinZ_perm fun x => by simp [or_comm]
  · rw [fgh, fgh', cfg, cgh, fg, gh, joinZ_nest hop cab, joinZ_perm (l := [canonZ f, joinZ op [canonZ g, canonZ h]]) (m := [joinZ op [canonZ g, canonZ h], canonZ f]) fun x => by simp [or_comm], joinZ_nest hop cbc]
    refine joinZ_perm fun x => ?_
    simp only [List.cons_append, List.nil_append, List.mem_cons, List.not_mem_nil, or_false]
    constructor
    · rintro (h | h | h)
      · exact .inr (.inr h)
      · exact .inl h
      · exact .inr (.inl h)
    · rintro (h | h | h)
      · exact .inr (.inl h)
      · exact .inr (.inr h)
      · exact .inl h
  · rw [fgh, f3, cfg, fg, joinZ_nest hop cab]; rfl
  · rw [ff]; exact joinZ_two hop h1.can
  · rw [(conn_two hop lf (leafU (unit_12 op)) h1 (leafL (unit_12 op)) (by omega) (by omega)).1, canonZ_leaf (unit_12 op)]
    exact eu
  · rw [(conn_two hop (leafU (unit_12 op)) lf (leafL (unit_12 op)) h1 (by omega) (by omega)).1, canonZ_leaf (unit_12 op), joinZ_perm (m := [canonZ f, opF (unitZ op) []]) fun x => by simp [or_comm]]
    exact eu
  · rw [(conn_two hop lf (leafU (zero_12 op)) h1 (leafL (zero_12 op)) (by omega) (by omega)).1, canonZ_leaf (zero_12 op)]
    exact ez _ (by simp)
  · rw [(conn_two hop (leafU (zero_12 op)) lf (leafL (zero_12 op)) h1 (by omega) (by omega)).1, canonZ_leaf (zero_12 op)]
    exact ez _ (by simp)
end Go.Proofs.YtdakdpfofgkjoaaGreatDoor
set_option linter.unusedVariables false
set_option linter.unusedSimpArgs false
namespace Go.Proofs.YtdakdpfofgkjoaaGreatDoor
open Go.RowKit Go.Shelf
attribute [local go_sem] cell_alloc_old buildF_o buildF_0 run_store_func

theorem conn_not {op : Int} {l : List Fm} {i : Nat} (hi : i < l.length) (h : looseB (l.getD i default) = false) : connZ op l = zeroF := by
  unfold connZ
  rw [if_neg]
  rw [List.all_eq_true]
  intro ha
  rw [ha _ (getD_memF hi)] at h
  cases h
set_option maxRecDepth 100000 in
set_option maxHeartbeats 8000000 in
theorem connect_any {D : Dom} {w : World} {A : Option Addr} {n c : Nat} {op : Int} {l : List Fm} (h : RdA w D l A c) (hn : n = l.length) (hop : op = 5 ∨ op = 6) (hz : sizes l ≤ 1000000) (hg : GF w) (hk : GK w) :
    Calls Tryz.prog 50 #[.int .i64 op, .slice A n c] w fun e w' => ∃ v, e = .returned v ∧ NewF (connZ op l) w v w' := by
  subst hn
  have HL := hid h.old
  have HG := hid hg
  have HK := hid hk
  have hal := args_sizes l
  have hcp := h.len
  have HSZ := hid hz
  have hll : l.length ≤ 1000000 := Nat.le_trans hal hz
  clear h hg hk hz hal
  go_enter Tryz.func50, Tryz.ntmps50
  go_upto_region 1 with (fail)
  refine wp_gen fun W hW => ?_
  have HB := hid (show Below w.heap.size w W by rw [hW]; go_grown)
  have HR := hid (show OB W w.heap.size 0 ⟨#[]⟩ 0 0 none 0 0 by rw [hW]; exact at_new _ _ _ rfl)
  have HWS := hid (show W.heap.size = w.heap.size + 1 by rw [hW]; simp)
  have HLW := hid (HL.out.keep (Keeps.of_below HB.out fun _ h => h))
  have HGW := hid (HG.out.below HB.out HG.out.pos)
  have HKW := hid (HK.out.below HB.out HK.out.pos)
  clear hW
  go_wp2_with fail
  go_loopw [9] (fun r wr => ∃ i : Nat, i ≤ l.length ∧ r = .int .i64 (i : Int) ∧ Below W.heap.size W wr ∧ (∀ j, j < i → looseB (l.getD j default) = true)) (fun r _ => l.length - (intOf r).toNat)
  case atStart => exact ⟨0, Nat.zero_le _, rfl, Below.refl _ _, fun j h => absurd h (Nat.not_lt_zero _)⟩
  case round =>
    obtain ⟨i, hi, rfl, hbl, hall⟩ := hrel
    have HBL := hid hbl
    have HALL := hid hall
    have HLr := hid (HLW.out.keep (Keeps.of_below HBL.out fun k hk => by have := HWS.out; omega))
    have HGr := hid (HGW.out.below HBL.out (by have := HGW.out.pos; omega))
    have HKr := hid (HKW.out.below HBL.out (by have := HKW.out.pos; omega))
    have HRr := hid (HR.out.below HBL.out)
    clear hbl hall
    by_cases hlt : i < l.length
    · have hii : (i : Int) < l.length := by omega
      obtain ⟨b1, o1, A', c', f, rfl, HX, hf⟩ := HLr.out.get hlt
      have HXX := hid HX.out
      have HLO := hid (loose_any f b1 (o1 + i * 5) A' c' wr hf HGr.out HKr.out)
      clear HX hf
      cases hv : looseB f
      · have HZ := hid (conn_not (op := op) hlt (by rw [HXX.out]; exact hv))
        rw [hv] at HLO
        clear hv
        go_wp2_with (go_at_call 52; refine HLO.out.mono ?_; rintro e w2 ⟨rfl, hb2⟩; have hr := HRr.out.below hb2; obtain ⟨r0, r1, r2, r3, r4, rl⟩ := hr.cells; have p0 := hr.free 0; have p1 := hr.free 1; have p2 := hr.free 2; have p3 := hr.free 3; have p4 := hr.free 4)
        refine bodyPost_gen fun WE hWE => ?_
        have hoE : OB WE w.heap.size 0 ⟨#[]⟩ 0 0 none 0 0 := by rw [hWE]; exact set5_OB hr
        have hb2w : Below W.heap.size W w2 := HBL.out.trans (hb2.mono HBL.out.size)
        have hcE : Chg (fun x => x = w.heap.size) w2 WE := by rw [hWE]; exact set5_chg0 _ _ _ _ _ _ _
        have hbE : Below w.heap.size w WE := (HB.out.trans (hb2w.mono HB.out.size)).trans (hcE.below (B := w.heap.size) (fun x hx h => by omega) (Nat.le_trans HB.out.size hb2w.size))
        obtain ⟨y0, y1, y2, y3, y4, yl⟩ := hoE.cells
        clear hWE r0 r1 r2 r3 r4 p0 p1 p2 p3 p4
        rw [HZ.out]
        exact bodyPost_ret (v := .agg #[.int .i64 0, .string ⟨#[]⟩, .int .i64 0, .int .i64 0, .slice none 0 0]) (by simp [results, Tryz.results50, go_sem, y0, y1, y2, y3, y4]) rfl ⟨_, rfl, NewF.zero hbE⟩
      · have HV := hid (show looseB (l.getD i default) = true by rw [HXX.out]; exact hv)
        rw [hv] at HLO
        clear hv
        go_wp2_with (go_at_call 52; refine HLO.out.mono ?_; rintro e w2 ⟨rfl, hb2⟩)
        go_roundw
        case rel => exact ⟨i + 1, by omega, by go_num, HBL.out.trans (hb2.mono HBL.out.size), fun j hj => by
          rcases Nat.lt_succ_iff_lt_or_eq.1 hj with h | h
          · exact HALL.out j h
          · rw [h]; exact HV.out⟩
        case measure => simp [intOf]; omega
    · have hii : ¬ (i : Int) < l.length := by omega
      have HALLL := hid (show ∀ g, g ∈ l → looseB g = true from fun g hg => by
        obtain ⟨k, hk, e⟩ := List.getElem_of_mem hg
        have := HALL.out k (by omega)
        have e2 : l.getD k default = g := by rw [← e]; simp [List.getD_eq_getElem?_getD, List.getElem?_eq_getElem hk]
        rwa [e2] at this)
      have HBR := hid (fun g hg => by obtain ⟨x, hx, rfl⟩ := List.mem_map.1 hg; exact (loose_out (loose_canon (HALLL.out x hx))).2.2 : ∀ g, g ∈ l.map canonZ → allI bareQ false g)
      have HFB := hid (flatZ_bare hop HBR.out)
      have HSC := hid (show sizes (l.map canonZ) ≤ 1000000 from Nat.le_trans (sizes_map_le fun x _ => canonZ_size x) HSZ.out)
      have HC := hid (canons_any HLr.out rfl hll (fun g hg => canon_any g _ (loose_out (HALLL.out g hg)).2.2 (by have := (loose_out (HALLL.out g hg)).1; omega)))
      obtain ⟨g, hg⟩ : ∃ g, g = joinZ op (l.map canonZ) := ⟨_, rfl⟩
      have HGJ := hid hg
      have HCON := hid (show connZ op l = if looseB g then g else zeroF by
        unfold connZ
        rw [if_pos (List.all_eq_true.2 HALLL.out), ← HGJ.out])
      clear hg
      go_upto_region 8 with (first | (go_at_call 80; refine HC.out.mono ?_; rintro e w2 ⟨A2, rfl, ha2, hb2⟩; have HB2 := hid hb2; have HJ := hid (join_any (base := wr.heap.size) (n := l.length) ha2 (by simp) hop hb2.size HSC.out (fun x hx h4 => bare_not (HFB.out x hx) h4) (fun x hx => ⟨_, allI_imp bareQ_nz (HFB.out x hx)⟩)); clear ha2) | (go_at_call 79; refine HJ.out.mono ?_; rw [← HGJ.out]; rintro e w5 ⟨v, rfl, ⟨A5, c5, rfl, ha5⟩, hb5⟩))
      refine wp_gen fun W5 hW5 => ?_
      obtain ⟨ob, hob⟩ : ∃ ob, ob = w5.heap.size := ⟨_, rfl⟩
      rw [← hob]
      have HB52 := hid (hb5)
      have HB5r := hid (show Below wr.heap.size wr W5 by rw [hW5]; exact (HB2.out.trans (hb5.mono HB2.out.size)).alloc (Nat.le_trans HB2.out.size hb5.size) _)
      have HB5W := hid (HBL.out.trans (HB5r.out.mono HBL.out.size))
      have HB5 := hid (HB.out.trans (HB5W.out.mono HB.out.size))
      have HO5 := hid (show OB W5 ob g.op g.name g.val g.bound A5 g.args.length c5 by rw [hW5]; exact at_new _ _ _ hob)
      have HR5 := hid (HR.out.below HB5W.out)
      have HA5 := hid (show RdA W5 (Nw wr.heap.size W5) g.args A5 c5 from ha5.nw (V := fun _ => False) (by rw [hW5]; exact (Chg.refl _ w5).alloc _) fun _ h => h.elim)
      have hobr : wr.heap.size ≤ ob := by rw [hob]; exact Nat.le_trans HB2.out.size hb5.size
      have hwr := HBL.out.size
      have hws := HWS.out
      have HWR := hid (And.intro hwr hws)
      have hne1 : ¬ ob = w.heap.size := by omega
      have hne2 : ¬ w.heap.size = ob := by omega
      have HG5 := hid (HGW.out.below HB5W.out (by have := HGW.out.pos; omega))
      have HK5 := hid (HKW.out.below HB5W.out (by have := HKW.out.pos; omega))
      have HLO := hid (loose_any g ob 0 A5 c5 W5 (Box5.hasF (D := AnyD) HO5.out trivial (HA5.out.mono fun _ _ _ => trivial)) HG5.out HK5.out)
      clear hW5 hob hb5 ha5 HC HJ hwr hws
      cases hv : looseB g
      · have HZ := hid (show connZ op l = zeroF by rw [HCON.out, hv]; rfl)
        rw [hv] at HLO
        clear hv
        go_wp2_with (go_at_call 52; refine HLO.out.mono ?_; rintro e w6 ⟨rfl, hb6⟩; have HB6 := hid hb6; have hr := HR5.out.below hb6; obtain ⟨r0, r1, r2, r3, r4, rl⟩ := hr.cells; have p0 := hr.free 0; have p1 := hr.free 1; have p2 := hr.free 2; have p3 := hr.free 3; have p4 := hr.free 4)
        refine bodyPost_gen fun WE hWE => ?_
        have hoE : OB WE w.heap.size 0 ⟨#[]⟩ 0 0 none 0 0 := by rw [hWE]; exact set5_OB hr
        have hcE : Chg (fun x => x = w.heap.size) w6 WE := by rw [hWE]; exact set5_chg0 _ _ _ _ _ _ _
        have hbE : Below w.heap.size w WE := (HB5.out.trans (HB6.out.mono HB5.out.size)).trans (hcE.below (B := w.heap.size) (fun x hx h => by omega) (Nat.le_trans HB5.out.size HB6.out.size))
        obtain ⟨y0, y1, y2, y3, y4, yl⟩ := hoE.cells
        clear hWE r0 r1 r2 r3 r4 p0 p1 p2 p3 p4
        rw [HZ.out]
        exact bodyPost_ret (v := .agg #[.int .i64 0, .string ⟨#[]⟩, .int .i64 0, .int .i64 0, .slice none 0 0]) (by simp [results, Tryz.results50, go_sem, y0, y1, y2, y3, y4]) rfl ⟨_, rfl, NewF.zero hbE⟩
      · have HZ := hid (show connZ op l = g by rw [HCON.out, hv]; rfl)
        rw [hv] at HLO
        clear hv
        go_wp2_with (go_at_call 52; refine HLO.out.mono ?_; rintro e w6 ⟨rfl, hb6⟩; have HB6 := hid hb6; have HO6 := hid (HO5.out.below hb6); obtain ⟨z0, z1, z2, z3, z4, zl⟩ := HO6.out.cells; have hr := HR5.out.below hb6; obtain ⟨r0, r1, r2, r3, r4, rl⟩ := hr.cells; have p0 := hr.free 0; have p1 := hr.free 1; have p2 := hr.free 2; have p3 := hr.free 3; have p4 := hr.free 4)
        refine bodyPost_gen fun WE hWE => ?_
        have hoE : OB WE w.heap.size g.op g.name g.val g.bound A5 g.args.length c5 := by rw [hWE]; exact set5_OB hr
        have hcE : Chg (fun x => x = w.heap.size) w6 WE := by rw [hWE]; exact set5_chg0 _ _ _ _ _ _ _
        have hbE : Below w.heap.size w WE := (HB5.out.trans (HB6.out.mono HB5.out.size)).trans (hcE.below (B := w.heap.size) (fun x hx h => by omega) (Nat.le_trans HB5.out.size HB6.out.size))
        have hnew : NewF (connZ op l) w (.agg #[.int .i64 g.op, .string g.name, .int .i64 g.val, .int .i64 g.bound, .slice A5 g.args.length c5]) WE := by
          rw [HZ.out]
          have ha6 : RdA w6 (Nw wr.heap.size w6) g.args A5 c5 := HA5.out.nw (Chg.of_new (V := fun _ => False) HB6.out) fun _ h => h.elim
          exact ⟨hbE, A5, c5, rfl, (ha6.nw hcE fun x h => by have : x = w.heap.size := h; have := HWR.out; omega).base (by have := HWR.out; omega)⟩
        obtain ⟨y0, y1, y2, y3, y4, yl⟩ := hoE.cells
        clear hWE r0 r1 r2 r3 r4 p0 p1 p2 p3 p4 z0 z1 z2 z3 z4
        exact bodyPost_ret (v := .agg #[.int .i64 g.op, .string g.name, .int .i64 g.val, .int .i64 g.bound, .slice A5 g.args.length c5]) (by simp [results, Tryz.results50, go_sem, y0, y1, y2, y3, y4]) rfl ⟨_, rfl, hnew⟩
set_option maxRecDepth 100000 in
set_option maxHeartbeats 2000000 in
theorem or_any {D : Dom} {w : World} {A : Option Addr} {n c : Nat} {l : List Fm} (h : RdA w D l A c) (hn : n = l.length) (hz : sizes l ≤ 1000000) (hg : GF w) (hk : GK w) :
    Calls Tryz.prog 27 #[.slice A n c] w fun e w' => ∃ v, e = .returned v ∧ NewF (connZ 6 l) w v w' := by
  subst hn
  have HL := hid h.old
  have HG := hid hg
  have HK := hid hk
  clear h hg hk
  obtain ⟨g, hgg⟩ : ∃ g, connZ 6 l = g := ⟨_, rfl⟩
  have HGG := hid hgg
  rw [hgg]
  clear hgg
  go_enter Tryz.func27, Tryz.ntmps27
  go_upto_region 1 with (fail)
  refine wp_gen fun W hW => ?_
  have HB := hid (show Below w.heap.size w W by rw [hW]; go_grown)
  have HR := hid (show OB W w.heap.size 0 ⟨#[]⟩ 0 0 none 0 0 by rw [hW]; exact at_new _ _ _ rfl)
  have HWS := hid (show W.heap.size = w.heap.size + 1 by rw [hW]; simp)
  have HC := hid (connect_any (op := 6) (HL.out.keep (Keeps.of_below HB.out fun _ h => h)) rfl (.inr rfl) hz (HG.out.below HB.out HG.out.pos) (HK.out.below HB.out HK.out.pos))
  clear hW
  rw [HGG.out] at HC
  go_wp2_with (go_at_call 50; (with_reducible refine HC.out.mono ?_); rintro e w5 ⟨v, rfl, hb5, A5, c5, rfl, ha5⟩; have HA5 := hid ha5; have HB5 := hid hb5; clear ha5; have hr := HR.out.below hb5; obtain ⟨r0, r1, r2, r3, r4, rl⟩ := hr.cells; have p0 := hr.free 0; have p1 := hr.free 1; have p2 := hr.free 2; have p3 := hr.free 3; have p4 := hr.free 4)
  refine bodyPost_gen fun WE hWE => ?_
  have hoE : OB WE w.heap.size g.op g.name g.val g.bound A5 g.args.length c5 := by rw [hWE]; exact set5_OB hr
  have hcE : Chg (fun x => x = w.heap.size) w5 WE := by rw [hWE]; exact set5_chg0 _ _ _ _ _ _ _
  have hb5w := HB.out.trans (HB5.out.mono HB.out.size)
  have hbE : Below w.heap.size w WE := hb5w.trans (hcE.below (B := w.heap.size) (fun x hx h => by omega) hb5w.size)
  have hnew : NewF g w (.agg #[.int .i64 g.op, .string g.name, .int .i64 g.val, .int .i64 g.bound, .slice A5 g.args.length c5]) WE :=
    ⟨hbE, A5, c5, rfl, (HA5.out.nw hcE fun x h => by have : x = w.heap.size := h; have := HWS.out; omega).base HB.out.size⟩
  obtain ⟨y0, y1, y2, y3, y4, yl⟩ := hoE.cells
  clear hWE r0 r1 r2 r3 r4 p0 p1 p2 p3 p4
  exact bodyPost_ret (v := .agg #[.int .i64 g.op, .string g.name, .int .i64 g.val, .int .i64 g.bound, .slice A5 g.args.length c5]) (by simp [results, Tryz.results27, go_sem, y0, y1, y2, y3, y4]) rfl ⟨_, rfl, hnew⟩
/-- What Canon returns. -/
def canonicalZ (f : Fm) : Fm := if looseB f then canonZ f else zeroF
end Go.Proofs.YtdakdpfofgkjoaaGreatDoor
set_option linter.unusedVariables false
set_option linter.unusedSimpArgs false
namespace Go.Proofs.YtdakdpfofgkjoaaGreatDoor

/-- The canonical form of the negation. -/
def cn (f : Fm) : Fm := canonZ (kf true f)
def dop (op : Int) : Int := if op = 5 then 6 else 5
theorem dop_56 {op : Int} (hop : op = 5 ∨ op = 6) : dop op = 5 ∨ dop op = 6 := by rcases hop with rfl | rfl <;> decide
theorem dop_dop {op : Int} (hop : op = 5 ∨ op = 6) : dop (dop op) = op := by rcases hop with rfl | rfl <;> decide
theorem cn_true : cn (opF 1 []) = opF 2 [] := canonZ_leaf (.inr rfl)
theorem cn_false : cn (opF 2 []) = opF 1 [] := canonZ_leaf (.inl rfl)
theorem cn_zero {op : Int} (hop : op = 5 ∨ op = 6) : cn (opF (zeroZ op) []) = opF (zeroZ (dop op)) [] := by
  rcases hop with rfl | rfl
  · exact cn_false
  · exact cn_true
theorem cn_unit {op : Int} (hop : op = 5 ∨ op = 6) : cn (opF (unitZ op) []) = opF (unitZ (dop op)) [] := by
  rcases hop with rfl | rfl
  · exact cn_true
  · exact cn_false
/-- The operators under which a negation only goes to the arguments. -/
def plainOp (o : Int) : Prop := o = 1 ∨ o = 2 ∨ o = 5 ∨ o = 6 ∨ o = 8 ∨ o = 9 ∨ o = 10 ∨ o = 15 ∨ o = 16 ∨ o = 17
theorem kf_plain {o : Int} (h : plainOp o) (n : ByteArray) (v b : Int) (l : List Fm) : kf true (.mk o n v b l) = .mk (opOut true o) n (valOut true o v) 0 (l.map (kf true)) := by
  rcases h with rfl | rfl | rfl | rfl | rfl | rfl | rfl | rfl | rfl | rfl
  all_goals
    rw [kf_gen rfl, ← kfs_all]
    rfl
theorem kf_conj {op : Int} (hop : op = 5 ∨ op = 6) (l : List Fm) : kf true (opF op l) = opF (dop op) (l.map (kf true)) := by
  unfold opF
  rw [kf_plain (by rcases hop with rfl | rfl; exact .inr (.inr (.inl rfl)); exact .inr (.inr (.inr (.inl rfl))))]
  rcases hop with rfl | rfl <;> rfl
theorem cn_conj {op : Int} (hop : op = 5 ∨ op = 6) (l : List Fm) : cn (opF op l) = joinZ (dop op) (l.map cn) := by
  unfold cn
  rw [kf_conj hop, canonZ_op (dop_56 hop), List.map_map]
  rfl
/-- A formula with the nodes of kernels, somewhere. -/
def Bare (f : Fm) : Prop := ∃ ins, allI bareQ ins f
theorem Bare.arg {f g : Fm} (h : Bare f) (hg : g ∈ f.args) : Bare g := let ⟨_, h⟩ := h; ⟨_, (allI_iff.1 h).2 g hg⟩
theorem allI_shp {ins : Bool} {f : Fm} (h : allI bareQ ins f) : allI shpQ ins f := allI_imp (fun x hx => by
  unfold bareQ at hx; unfold shpQ
  simp only [Bool.and_eq_true] at hx
  exact hx.1.1.2) h
theorem allI_lay {ins : Bool} {f : Fm} (h : allI bareQ ins f) : allI layQ ins f := allI_imp (fun x hx => by
  unfold bareQ at hx; unfold layQ
  simp only [Bool.and_eq_true] at hx
  exact hx.1.2) h
theorem Bare.kf {f : Fm} (h : Bare f) (b : Bool) : Bare (kf b f) := let ⟨_, h⟩ := h; ⟨_, kf_bare f _ (allI_shp h) (allI_lay h) b⟩
theorem Bare.cn {f : Fm} (h : Bare f) : Can (cn f) := let ⟨_, h⟩ := h.kf true; canonZ_can _ _ h
theorem Bare.node {f : Fm} (h : Bare f) : (formZ f.op).loose = true ∧ shapedB f = true ∧ (f.op = 4 → (f.args.getD 0 default).op = 3) := let ⟨_, h⟩ := h; let h := bareQ_parts (allI_iff.1 h).1; ⟨h.1, h.2.1, h.2.2.2⟩
theorem Bare.canon {f : Fm} (h : Bare f) (hs : f.size ≤ manyN) : Bare (canonZ f) := let ⟨_, h⟩ := h; ⟨_, canonZ_bare f _ h hs⟩
theorem shp_empty {f : Fm} (h : shapedB f = true) (hn : (formZ f.op).named = false) : f.name = ⟨#[]⟩ := by
  have h8 := (shp_out h).2.2.2.2.2.2.2
  unfold nameOk at h8
  rw [hn] at h8
  exact empty_name h8
/-- The test of a signal. -/
theorem is_form {f : Fm} (h : Bare f) (h3 : f.op = 3) : f = .mk 3 f.name f.val f.bound [] := by
  conv => lhs; rw [← f.eta]
  rw [h3, no_arg (by rw [h3]; rfl) h.node.2.1]
theorem not_form {f : Fm} (h : Bare f) (h4 : f.op = 4) : ∃ g, f = .mk 4 f.name f.val f.bound [g] ∧ g.op = 3 ∧ f.args = [g] := by
  obtain ⟨_, hs, ha⟩ := h.node
  obtain ⟨g, hg⟩ := one_arg (by rw [h4]; rfl) (by rw [h4]; rfl) hs
  refine ⟨g, ?_, ?_, hg⟩
  · conv => lhs; rw [← f.eta]
    rw [h4, hg]
  · have := ha h4
    rw [hg] at this
    exact this
/-- A literal's negation. -/
theorem lit_neg {x : Fm} (hc : Can x) (hb : Bare x) (h4 : x.op = 4) : ∃ y, x.args.getD 0 default = y ∧ cn x = y ∧ cn y = x ∧ y.op = 3 := by
  obtain ⟨y, hx, h3, ha⟩ := not_form hb h4
  have hym : y ∈ x.args := by rw [ha]; simp
  have hy := is_form (hb.arg hym) h3
  have hyc := hc.arg y hym
  have hyb := hyc.node.bd
  rw [hyb] at hy
  obtain ⟨s1, s2, s3, s4, s5, s6, s7, s8⟩ := shp_out hb.node.2.1
  have hn : x.name = ⟨#[]⟩ := shp_empty hb.node.2.1 (by rw [h4]; rfl)
  have hv : x.val = 0 := by rw [h4] at s5; exact Int.le_antisymm s5 s4
  rw [hn, hv, hc.node.bd] at hx
  refine ⟨y, by rw [ha]; rfl, ?_, ?_, h3⟩
  · unfold cn
    rw [hx, kf_not]
    have : kf (!true) y = y := by
      rw [hy]
      exact kf_is _ _ _
    rw [this, hyc.canonZ]
  · unfold cn
    have : kf true y = x := by
      rw [hx]
      conv => lhs; rw [hy]
      rw [kf_isnot]
      conv => rhs; rw [hy]
      rfl
    rw [this, hc.canonZ]
theorem joinZ_nil0 (op : Int) : joinZ op [] = opF (unitZ op) [] := rfl
theorem joinZ_unit0 {op : Int} (hop : op = 5 ∨ op = 6) (m : List Fm) : joinZ op (opF (unitZ op) [] :: m) = joinZ op m := by
  have := joinZ_nest hop (l := []) (by simp) m
  rw [joinZ_nil0] at this
  exact this
theorem conj_form {op : Int} (hop : op = 5 ∨ op = 6) {x : Fm} (h : Can x) (ho : x.op = op) : x = opF op x.args := by
  obtain ⟨_, _, _, h4, h5, _⟩ := h.node.set (by rw [ho]; exact hop)
  conv => lhs; rw [← x.eta]
  rw [ho, h4, h5, h.node.bd]; rfl
theorem join_flat {op : Int} (hop : op = 5 ∨ op = 6) : ∀ (l : List Fm), (∀ g, g ∈ l → Can g ∧ Bare g) → ∀ m, joinZ (dop op) (l.map cn ++ m) = joinZ (dop op) ((flatZ op l).map cn ++ m)
  | [], _, _ => rfl
  | x :: l, h, m => by
    have ih := join_flat hop l fun g hg => h g (by simp [hg])
    obtain ⟨hx, hxb⟩ := h x (by simp)
    rw [List.map_cons, List.cons_append, flatZ_one, List.map_append]
    unfold partZ
    split
    · rename_i ho
      have e : cn x = joinZ (dop op) (x.args.map cn) := by
        conv => lhs; rw [conj_form hop hx ho]
        exact cn_conj hop _
      rw [e, joinZ_nest (dop_56 hop) fun g hg => by
        obtain ⟨y, hy, rfl⟩ := List.mem_map.1 hg
        exact (hxb.arg hy).cn]
      rw [joinZ_perm (m := l.map cn ++ (x.args.map cn ++ m)) fun z => by simp only [List.mem_append]; exact or_left_comm, ih]
      exact joinZ_perm fun z => by simp only [List.mem_append, or_assoc]; exact or_left_comm
    · split
      · rename_i hu
        have e : cn x = opF (unitZ (dop op)) [] := by
          rw [leaf_eq hx.node (by rw [hu]; exact unit_12 op), hu]
          exact cn_unit hop
        rw [e, joinZ_unit0 (dop_56 hop), ih]
        rfl
      · rw [joinZ_perm (m := l.map cn ++ (cn x :: m)) fun z => by simp only [List.mem_append, List.mem_cons]; exact or_left_comm, ih]
        exact joinZ_perm fun z => by
          simp only [List.mem_append, List.mem_cons, List.map_cons, List.map_nil, List.not_mem_nil, or_false, or_assoc]
          exact or_left_comm
theorem join_zero {op : Int} {l : List Fm} (h : opF (zeroZ op) [] ∈ l) : joinZ op l = opF (zeroZ op) [] := by
  unfold joinZ
  rw [if_pos (anyZ_iff.2 ⟨_, h, rfl⟩)]
/-- The canonical form of the negation of a conjunction of canonical formulas. -/
theorem cn_join {op : Int} (hop : op = 5 ∨ op = 6) {l : List Fm} (h : ∀ g, g ∈ l → Can g ∧ Bare g) : cn (joinZ op l) = joinZ (dop op) (l.map cn) := by
  have hfl : joinZ (dop op) (l.map cn) = joinZ (dop op) ((flatZ op l).map cn) := by
    have := join_flat hop l h []
    rwa [List.append_nil, List.append_nil] at this
  have hbare : ∀ x, x ∈ flatZ op l → Bare x := fun x hx => by
    obtain ⟨g, hg, hh⟩ := flatZ_mem hx
    rcases hh with ⟨_, hh⟩ | rfl
    · exact (h g hg).2.arg hh
    · exact (h _ hg).2
  rcases joinZ_cases hop (fun g hg => (h g hg).1) with ⟨hz, e⟩ | ⟨hz, ho, hx, hc⟩
  · rw [e, cn_zero hop]
    rcases hz with ⟨g, hg, hgz⟩ | ho
    · refine (join_zero ?_).symm
      rw [← cn_zero hop, ← hgz, ← leaf_eq (h g hg).1.node (by rw [hgz]; exact zero_12 op)]
      exact List.mem_map.2 ⟨g, hg, rfl⟩
    · rw [hfl]
      obtain ⟨x, hx, h4, hy⟩ := oppB_iff.1 ho
      obtain ⟨y, ey, e1, e2, h3⟩ := lit_neg (flat_can (fun g hg => (h g hg).1) hx) (hbare x hx) h4
      rw [ey] at hy
      have m1 : y ∈ (flatZ op l).map cn := List.mem_map.2 ⟨x, hx, e1⟩
      have m2 : x ∈ (flatZ op l).map cn := List.mem_map.2 ⟨y, hy, e2⟩
      by_cases hz : ∃ g, g ∈ (flatZ op l).map cn ∧ g.op = zeroZ (dop op)
      · unfold joinZ; rw [if_pos (anyZ_iff.2 hz)]
      · unfold joinZ
        rw [if_neg fun e => hz (anyZ_iff.1 e)]
        unfold setZ
        rw [if_pos]
        have part : ∀ z, z ∈ (flatZ op l).map cn → (z.op = 3 ∨ z.op = 4) → z ∈ flatZ (dop op) ((flatZ op l).map cn) := fun z hz ho => by
          unfold flatZ
          refine List.mem_flatMap.2 ⟨z, hz, ?_⟩
          unfold partZ
          have u := unit_12 (dop op)
          have d := dop_56 hop
          rw [if_neg (by omega), if_neg (by omega)]
          simp
        exact oppB_iff.2 ⟨x, (setF_mem _ _).2 (part x m2 (.inr h4)), h4, by rw [ey]; exact (setF_mem _ _).2 (part y m1 (.inl h3))⟩
  · have hset : joinZ (dop op) (l.map cn) = joinZ (dop op) ((setF (flatZ op l)).map cn) := by
      rw [hfl]
      refine joinZ_perm fun x => ?_
      rw [List.mem_map, List.mem_map]
      exact ⟨fun ⟨z, hz, e⟩ => ⟨z, (setF_mem _ _).2 hz, e⟩, fun ⟨z, hz, e⟩ => ⟨z, (setF_mem _ _).1 hz, e⟩⟩
    rw [hset]
    rcases hc with ⟨hs, e⟩ | ⟨x, hs, e⟩ | ⟨hl, e⟩
    · rw [e, hs, cn_unit hop]; rfl
    · rw [e, hs]
      exact (joinZ_one (dop_56 hop) (hbare x ((setF_mem _ _).1 (by rw [hs]; simp))).cn).symm
    · rw [e]; exact cn_conj hop _
theorem getD_mapF {l : List Fm} {i : Nat} (g : Fm → Fm) (hi : i < l.length) : (l.map g).getD i default = g (l.getD i default) := by simp [List.getD, hi]
theorem isC_cn {x : Fm} (h : Can x) (hc : isC x = true) : isC (cn x) = true := by
  have h' := hc
  unfold isC at h'
  simp only [Bool.or_eq_true, decide_eq_true_eq] at h'
  rw [leaf_eq h.node h']
  rcases h' with e | e <;> rw [e]
  · rw [cn_true]; rfl
  · rw [cn_false]; rfl
theorem loose_ops {o : Int} (h : (formZ o).loose = true) (ho : isOp o = true) : o = 3 ∨ o = 4 ∨ plainOp o := by
  rcases isOp_cases ho with rfl | rfl | rfl | rfl | rfl | rfl | rfl | rfl | rfl | rfl | rfl | rfl | rfl | rfl | rfl | rfl | rfl | rfl | rfl
  all_goals first | (cases h; done) | (unfold plainOp; omega)
theorem cn_plain {o : Int} (h : plainOp o) (n : ByteArray) (v b : Int) (l : List Fm) : cn (.mk o n v b l) = canO (opOut true o) n (valOut true o v) (l.map cn) := by
  unfold cn
  rw [kf_plain h, canonZ_eq]
  simp only [Fm.op, Fm.name, Fm.val, Fm.args, List.map_map]
  rfl
/-- The negation of the canonical form has the canonical form of the negation. -/
theorem cn_canon (f : Fm) : Bare f → f.size ≤ manyN → cn (canonZ f) = cn f := by
  induction f using Fm.ind with
  | h f ih =>
    intro hb hz
    obtain ⟨p1, p2, p4⟩ := hb.node
    obtain ⟨s1, s2, s3, s4, s5, s6, s7, s8⟩ := shp_out p2
    have hsz : ∀ g, g ∈ f.args → g.size ≤ manyN := fun g hg => by
      have := sizes_mem hg
      have := Fm.size_eq f
      omega
    rcases loose_ops p1 s1 with h3 | h4 | hp
    · have hf := is_form hb h3
      have e : canonZ f = .mk 3 f.name f.val 0 [] := by conv => lhs; rw [hf, canonZ_eq]
                                                        rfl
      rw [e]
      conv => rhs; rw [hf]
      unfold cn
      rw [kf_isnot, kf_isnot]
    · obtain ⟨g, hf, h3, ha⟩ := not_form hb h4
      have hg := is_form (hb.arg (g := g) (by rw [ha]; simp)) h3
      have eg : canonZ g = .mk 3 g.name g.val 0 [] := by conv => lhs; rw [hg, canonZ_eq]
                                                         rfl
      have e : canonZ f = .mk 4 f.name f.val 0 [canonZ g] := by conv => lhs; rw [hf, canonZ_eq]
                                                                rfl
      rw [e]
      conv => rhs; rw [hf]
      unfold cn
      rw [kf_not, kf_not, eg]
      conv => rhs; rw [hg]
      rw [show (!true) = false from rfl, kf_is, kf_is]
    · have hm : (f.args.map canonZ).map cn = f.args.map cn := by
        rw [List.map_map]
        exact List.map_congr_left fun g hg => ih g hg (hb.arg hg) (hsz g hg)
      have hcs : ∀ g, g ∈ f.args.map canonZ → Can g ∧ Bare g := fun g hg => by
        obtain ⟨x, hx, rfl⟩ := List.mem_map.1 hg
        obtain ⟨ins, hi⟩ := hb.arg hx
        exact ⟨canonZ_can x _ hi, ⟨ins, canonZ_bare x _ hi (hsz x hx)⟩⟩
      have hat : ∀ i, i < f.args.length → Can ((f.args.map canonZ).getD i default) := fun i hi => (hcs _ (getD_memF (by simpa using hi))).1
      have key : cn f = canO (opOut true f.op) f.name (valOut true f.op f.val) ((f.args.map canonZ).map cn) := by
        rw [hm, ← cn_plain hp f.name f.val f.bound, f.eta]
      rw [key, canonZ_eq]
      have hlen : (f.args.map canonZ).length = f.args.length := List.length_map ..
      generalize f.args.map canonZ = xs at hcs hat hlen
      generalize f.name = n
      generalize f.val = v
      generalize hL : f.args.length = k at hlen s2 s3 hat
      generalize f.op = o at hp s2 s3
      rcases hp with rfl | rfl | rfl | rfl | rfl | rfl | rfl | rfl | rfl | rfl
      · exact cn_plain (.inl rfl) n v 0 xs
      · exact cn_plain (.inr (.inl rfl)) n v 0 xs
      · exact cn_join (.inl rfl) hcs
      · exact cn_join (.inr rfl) hcs
      · have h0 : 0 < k := s2
        have e : ∀ v ys, canO 8 n v ys = if isC (ys.getD 0 default) = true then ys.getD 0 default else .mk 8 n v 0 ys := fun v ys => by unfold canO; simp
        show _ = canO 8 n v (xs.map cn)
        by_cases hc : isC (xs.getD 0 default) = true
        · rw [e, if_pos hc, e, if_pos (by rw [getD_mapF _ (by omega)]; exact isC_cn (hat 0 h0) hc), getD_mapF _ (by omega)]
        · rw [e, if_neg hc]
          exact cn_plain (.inr (.inr (.inr (.inr (.inl rfl))))) n v 0 xs
      · have h1 : 2 ≤ k := s2
        have e : ∀ v ys, canO 9 n v ys = if isC (ys.getD 1 default) = true ∨ (ys.getD 0 default).op = 2 then ys.getD 1 default else .mk 9 n v 0 ys := fun v ys => by unfold canO; simp
        have e2 : ∀ v ys, canO 10 n v ys = if isC (ys.getD 1 default) = true ∨ (ys.getD 0 default).op = 1 then ys.getD 1 default else .mk 10 n v 0 ys := fun v ys => by unfold canO; simp
        show _ = canO 10 n v (xs.map cn)
        by_cases hc : isC (xs.getD 1 default) = true ∨ (xs.getD 0 default).op = 2
        · rw [e, if_pos hc, e2, if_pos, getD_mapF _ (by omega)]
          rw [getD_mapF _ (by omega), getD_mapF _ (by omega)]
          rcases hc with hc | hc
          · exact .inl (isC_cn (hat 1 (by omega)) hc)
          · right
            rw [leaf_eq (hat 0 (by omega)).node (.inr hc), hc, cn_false]; rfl
        · rw [e, if_neg hc]
          exact cn_plain (.inr (.inr (.inr (.inr (.inr (.inl rfl)))))) n v 0 xs
      · have h1 : 2 ≤ k := s2
        have e : ∀ v ys, canO 9 n v ys = if isC (ys.getD 1 default) = true ∨ (ys.getD 0 default).op = 2 then ys.getD 1 default else .mk 9 n v 0 ys := fun v ys => by unfold canO; simp
        have e2 : ∀ v ys, canO 10 n v ys = if isC (ys.getD 1 default) = true ∨ (ys.getD 0 default).op = 1 then ys.getD 1 default else .mk 10 n v 0 ys := fun v ys => by unfold canO; simp
        show _ = canO 9 n v (xs.map cn)
        by_cases hc : isC (xs.getD 1 default) = true ∨ (xs.getD 0 default).op = 1
        · rw [e2, if_pos hc, e, if_pos, getD_mapF _ (by omega)]
          rw [getD_mapF _ (by omega), getD_mapF _ (by omega)]
          rcases hc with hc | hc
          · exact .inl (isC_cn (hat 1 (by omega)) hc)
          · right
            rw [leaf_eq (hat 0 (by omega)).node (.inl hc), hc, cn_true]; rfl
        · rw [e2, if_neg hc]
          exact cn_plain (.inr (.inr (.inr (.inr (.inr (.inr (.inl rfl))))))) n v 0 xs
      · exact cn_plain (.inr (.inr (.inr (.inr (.inr (.inr (.inr (.inl rfl)))))))) n v 0 xs
      · exact cn_plain (.inr (.inr (.inr (.inr (.inr (.inr (.inr (.inr (.inl rfl))))))))) n v 0 xs
      · exact cn_plain (.inr (.inr (.inr (.inr (.inr (.inr (.inr (.inr (.inr rfl))))))))) n v 0 xs
/-! Sizes. -/
theorem sizes_map2 : ∀ {l : List Fm}, (∀ g, g ∈ l → (kf true g).size ≤ 2 * g.size) → sizes (l.map (kf true)) ≤ 2 * sizes l
  | [], _ => Nat.le_refl _
  | f :: l, h => by
    have h1 := h f (by simp)
    have h2 := sizes_map2 (l := l) fun g hg => h g (by simp [hg])
    simp only [List.map_cons, sizes]
    omega
theorem depths_map1 : ∀ {l : List Fm}, (∀ g, g ∈ l → (kf true g).depth ≤ g.depth + 1) → depths (l.map (kf true)) ≤ depths l + 1
  | [], _ => by simp [depths]
  | f :: l, h => by
    have h1 := h f (by simp)
    have h2 := depths_map1 (l := l) fun g hg => h g (by simp [hg])
    simp only [List.map_cons, depths]
    omega
/-- The negation of a formula is less than twice as long, unless it is a leaf. -/
theorem neg_size (f : Fm) : Bare f → (kf true f).size + (if f.args = [] then 0 else 1) ≤ 2 * f.size ∧ (kf true f).depth ≤ f.depth + 1 := by
  induction f using Fm.ind with
  | h f ih =>
    intro hb
    obtain ⟨p1, p2, p4⟩ := hb.node
    obtain ⟨s1, s2, s3, s4, s5, s6, s7, s8⟩ := shp_out p2
    rcases loose_ops p1 s1 with h3 | h4 | hp
    · have hf := is_form hb h3
      rw [hf, kf_isnot]
      simp [Fm.args, opF, isF, Fm.size, sizes, Fm.depth, depths]
    · obtain ⟨g, hf, h3, ha⟩ := not_form hb h4
      have hg := is_form (hb.arg (g := g) (by rw [ha]; simp)) h3
      rw [hf, kf_not, hg, show (!true) = false from rfl, kf_is]
      simp [Fm.args, Fm.size, sizes, Fm.depth, depths]
    · have e : kf true f = .mk (opOut true f.op) f.name (valOut true f.op f.val) 0 (f.args.map (kf true)) := by rw [← kf_plain hp f.name f.val f.bound, f.eta]
      have a1 := Fm.size_eq f
      have a2 := Fm.depth_eq f
      have a3 : (kf true f).size = 1 + sizes (f.args.map (kf true)) := by rw [e]; exact Fm.size_eq _
      have a4 : (kf true f).depth = 1 + depths (f.args.map (kf true)) := by rw [e]; exact Fm.depth_eq _
      have h1 := sizes_map2 (l := f.args) fun g hg => by have := (ih g hg (hb.arg hg)).1; omega
      have h2 := depths_map1 (l := f.args) fun g hg => (ih g hg (hb.arg hg)).2
      constructor
      · split <;> omega
      · omega
theorem neg_size2 {f : Fm} (h : Bare f) : (kf true f).size ≤ 2 * f.size := by have := (neg_size f h).1; omega
theorem neg_199 {f : Fm} (h : Bare f) (hs : f.size ≤ 100) : (kf true f).size ≤ 199 := by
  have h1 := (neg_size f h).1
  by_cases ha : f.args = []
  · have := Fm.size_eq f
    rw [ha] at this
    simp only [sizes] at this
    rw [if_pos ha] at h1
    omega
  · rw [if_neg ha] at h1
    omega
theorem part_199 {op : Int} {f : Fm} (h : Bare f) (hs : f.size ≤ 100) : sizes ((partZ op f).map (kf true)) ≤ 199 := by
  unfold partZ
  split
  · have h1 := sizes_map2 (l := f.args) fun g hg => neg_size2 (h.arg hg)
    have := Fm.size_eq f
    omega
  · split
    · simp [sizes]
    · have := neg_199 h hs
      simp only [List.map_cons, List.map_nil, sizes]
      omega
theorem insF_map (F : Fm → Fm) (x : Fm) : ∀ l : List Fm, sizes ((insF x l).map F) ≤ (F x).size + sizes (l.map F)
  | [] => by simp [insF, sizes]
  | y :: l => by
    have := insF_map F x l
    unfold insF
    split
    · simp [sizes]
    · split
      · simp [sizes]
      · simp only [List.map_cons, sizes]; omega
theorem setF_map (F : Fm → Fm) : ∀ gs : List Fm, sizes ((setF gs).map F) ≤ sizes (gs.map F)
  | [] => Nat.le_refl _
  | x :: gs => by
    have := setF_map F gs
    have h := insF_map F x (setF gs)
    show sizes ((insF x (setF gs)).map F) ≤ _
    simp only [List.map_cons, sizes]
    omega
theorem join_neg {op : Int} (hop : op = 5 ∨ op = 6) {l : List Fm} (h : ∀ g, g ∈ l → Can g) : (kf true (joinZ op l)).size ≤ 1 + sizes ((flatZ op l).map (kf true)) := by
  have hs := setF_map (kf true) (flatZ op l)
  rcases joinZ_cases hop h with ⟨hz, e⟩ | ⟨hz, ho, hx, ⟨_, e⟩ | ⟨x, hs', e⟩ | ⟨hl, e⟩⟩
  · rw [e]
    have : kf true (opF (zeroZ op) []) = opF (zeroZ (dop op)) [] := by rcases hop with rfl | rfl <;> rfl
    rw [this, leaf_size]; omega
  · rw [e]
    have : kf true (opF (unitZ op) []) = opF (unitZ (dop op)) [] := by rcases hop with rfl | rfl <;> rfl
    rw [this, leaf_size]; omega
  · rw [e]
    rw [hs'] at hs
    simp only [List.map_cons, List.map_nil, sizes] at hs
    omega
  · rw [e, kf_conj hop]
    show 1 + sizes ((setF (flatZ op l)).map (kf true)) ≤ _
    omega
theorem low_bare {f : Fm} (h : lowB f = true) : Bare f := ⟨false, (loose_out (low_out h).2.2).2.2⟩
theorem bare_loose {ins : Bool} {f : Fm} (h1 : f.size ≤ 400) (h2 : f.depth ≤ 60) (h : looseB f = true ∨ allI bareQ false f) : looseB f = true := h.elim id (loose_of h1 h2)
theorem loose_kf {f : Fm} (h : looseB f = true) (h1 : (kf true f).size ≤ 400) (h2 : (kf true f).depth ≤ 60) : notZ f = kf true f ∧ looseB (kf true f) = true := by
  have hb := (loose_out h).2.2
  constructor
  · unfold notZ
    rw [if_pos]
    rw [Bool.and_eq_true, fits_true]
    exact ⟨h, by omega, by omega⟩
  · exact loose_of h1 h2 (kf_bare f _ (allI_shp hb) (allI_lay hb) true)
theorem low_not {f : Fm} (h : lowB f = true) : notZ f = kf true f ∧ looseB (kf true f) = true ∧ (kf true f).size ≤ 199 ∧ (kf true f).depth ≤ 51 := by
  obtain ⟨h1, h2, h3⟩ := low_out h
  have hb := low_bare h
  have hs := neg_199 hb h1
  have hd := (neg_size f hb).2
  obtain ⟨a, b⟩ := loose_kf h3 (by omega) (by omega)
  exact ⟨a, b, hs, by omega⟩
theorem canonical_loose {f : Fm} (h : looseB f = true) : canonicalZ f = canonZ f := by
  unfold canonicalZ; rw [if_pos h]
theorem canon_low {f : Fm} (h : lowB f = true) : lowB (canonZ f) = true := by
  have := low_canon h
  unfold lowB
  rw [decide_eq_true this.size, decide_eq_true this.depth, this.loose]; rfl
/-- The negation's canonical form. -/
theorem dual_not {f : Fm} (h : lowB f = true) : canonicalZ (notZ f) = canonicalZ (notZ (canonicalZ f)) := by
  obtain ⟨h1, h2, h3⟩ := low_out h
  obtain ⟨n1, n2, _⟩ := low_not h
  obtain ⟨m1, m2, _⟩ := low_not (canon_low h)
  rw [canonical_loose h3, n1, m1, canonical_loose n2, canonical_loose m2]
  exact (cn_canon f (low_bare h) (many_ge (by omega))).symm
/-- The negation of a conjunction is the disjunction of the negations. -/
theorem dual_join {op : Int} (hop : op = 5 ∨ op = 6) {f g : Fm} (hf : lowB f = true) (hg : lowB g = true) : canonicalZ (notZ (connZ op [f, g])) = connZ (dop op) [notZ f, notZ g] := by
  obtain ⟨f1, f2, f3⟩ := low_out hf
  obtain ⟨g1, g2, g3⟩ := low_out hg
  obtain ⟨n1, n2, n3, n4⟩ := low_not hf
  obtain ⟨m1, m2, m3, m4⟩ := low_not hg
  have lf := low_canon hf
  have lg := low_canon hg
  obtain ⟨e, L⟩ := conn_two hop f3 g3 lf lg (by omega) (by omega)
  have hcs : ∀ x, x ∈ [canonZ f, canonZ g] → Can x ∧ Bare x := by
    rintro x hx
    simp at hx
    rcases hx with rfl | rfl
    · exact ⟨lf.can, low_bare (canon_low hf)⟩
    · exact ⟨lg.can, low_bare (canon_low hg)⟩
  have hjs : (kf true (connZ op [f, g])).size ≤ 400 := by
    rw [e]
    have h1 := join_neg hop (l := [canonZ f, canonZ g]) fun x hx => (hcs x hx).1
    have h2 := part_199 (op := op) (low_bare (canon_low hf)) lf.size
    have h3 := part_199 (op := op) (low_bare (canon_low hg)) lg.size
    rw [flatZ_one, flatZ_one, List.map_append, sizes_append, List.map_append, sizes_append] at h1
    have : sizes ((flatZ op []).map (kf true)) = 0 := rfl
    omega
  have hjd : (kf true (connZ op [f, g])).depth ≤ 60 := by
    have h1 := (neg_size (connZ op [f, g]) ⟨false, (loose_out L.loose).2.2⟩).2
    have h2 := L.depth
    omega
  obtain ⟨j1, j2⟩ := loose_kf L.loose hjs hjd
  rw [j1, canonical_loose j2, n1, m1]
  have hc : ∀ {x : Fm} (hx : lowB x = true), Low (canonZ (kf true x)) 199 51 := fun hx => by
    obtain ⟨x1, x2, x3, x4⟩ := low_not hx
    exact ⟨loose_can x2, loose_canon x2, Nat.le_trans (canonZ_size _) x3, Nat.le_trans (canonZ_depth _) x4⟩
  rw [(conn_two (dop_56 hop) n2 m2 (hc hf) (hc hg) (by omega) (by omega)).1, e]
  show cn (joinZ op [canonZ f, canonZ g]) = _
  rw [cn_join hop hcs]
  show joinZ (dop op) [cn (canonZ f), cn (canonZ g)] = _
  rw [cn_canon f (low_bare hf) (many_ge (by omega)), cn_canon g (low_bare hg) (many_ge (by omega))]
  rfl
end Go.Proofs.YtdakdpfofgkjoaaGreatDoor
