/-
  The plain law of FormulaDuality: canonical forms of negations.
-/
import Derived.Test.YtahgbgniaiccbaaGreatDoorZ28
set_option linter.unusedVariables false
set_option linter.unusedSimpArgs false
namespace Go.Proofs.YtahgbgniaiccbaaGreatDoor

/-- The canonical form of the negation. -/
def cn (f : Fm) : Fm := canonZ (kf true f)
def dop (op : Int) : Int := if op = 5 then 6 else 5
theorem dop_56 {op : Int} (hop : op = 5 ∨ op = 6) : dop op = 5 ∨ dop op = 6 := by rcases hop with rfl | rfl <;> decide
theorem dop_dop {op : Int} (hop : op = 5 ∨ op = 6) : dop (dop op) = op := by rcases hop with rfl | rfl <;> decide
theorem cn_true : cn (opF 1 []) = opF 2 [] := canonZ_leaf (.inr rfl)
theorem cn_false : cn (opF 2 []) = opF 1 [] := canonZ_leaf (.inl rfl)
theorem cn_zero {op : Int} (hop : op = 5 ∨ op = 6) : cn (opF (zeroZ op) []) = opF (zeroZ (dop op)) [] := by
  rcases hop with rfl | rfl
  · exact cn_false
  · exact cn_true
theorem cn_unit {op : Int} (hop : op = 5 ∨ op = 6) : cn (opF (unitZ op) []) = opF (unitZ (dop op)) [] := by
  rcases hop with rfl | rfl
  · exact cn_true
  · exact cn_false
/-- The operators under which a negation only goes to the arguments. -/
def plainOp (o : Int) : Prop := o = 1 ∨ o = 2 ∨ o = 5 ∨ o = 6 ∨ o = 8 ∨ o = 9 ∨ o = 10 ∨ o = 15 ∨ o = 16 ∨ o = 17
theorem kf_plain {o : Int} (h : plainOp o) (n : ByteArray) (v b : Int) (l : List Fm) : kf true (.mk o n v b l) = .mk (opOut true o) n (valOut true o v) 0 (l.map (kf true)) := by
  rcases h with rfl | rfl | rfl | rfl | rfl | rfl | rfl | rfl | rfl | rfl
  all_goals
    rw [kf_gen rfl, ← kfs_all]
    rfl
theorem kf_conj {op : Int} (hop : op = 5 ∨ op = 6) (l : List Fm) : kf true (opF op l) = opF (dop op) (l.map (kf true)) := by
  unfold opF
  rw [kf_plain (by rcases hop with rfl | rfl; exact .inr (.inr (.inl rfl)); exact .inr (.inr (.inr (.inl rfl))))]
  rcases hop with rfl | rfl <;> rfl
theorem cn_conj {op : Int} (hop : op = 5 ∨ op = 6) (l : List Fm) : cn (opF op l) = joinZ (dop op) (l.map cn) := by
  unfold cn
  rw [kf_conj hop, canonZ_op (dop_56 hop), List.map_map]
  rfl
/-- A formula with the nodes of kernels, somewhere. -/
def Bare (f : Fm) : Prop := ∃ ins, allI bareQ ins f
theorem Bare.arg {f g : Fm} (h : Bare f) (hg : g ∈ f.args) : Bare g := let ⟨_, h⟩ := h; ⟨_, (allI_iff.1 h).2 g hg⟩
theorem allI_shp {ins : Bool} {f : Fm} (h : allI bareQ ins f) : allI shpQ ins f := allI_imp (fun x hx => by
  unfold bareQ at hx; unfold shpQ
  simp only [Bool.and_eq_true] at hx
  exact hx.1.1.2) h
theorem allI_lay {ins : Bool} {f : Fm} (h : allI bareQ ins f) : allI layQ ins f := allI_imp (fun x hx => by
  unfold bareQ at hx; unfold layQ
  simp only [Bool.and_eq_true] at hx
  exact hx.1.2) h
theorem Bare.kf {f : Fm} (h : Bare f) (b : Bool) : Bare (kf b f) := let ⟨_, h⟩ := h; ⟨_, kf_bare f _ (allI_shp h) (allI_lay h) b⟩
theorem Bare.cn {f : Fm} (h : Bare f) : Can (cn f) := let ⟨_, h⟩ := h.kf true; canonZ_can _ _ h
theorem Bare.node {f : Fm} (h : Bare f) : (formZ f.op).loose = true ∧ shapedB f = true ∧ (f.op = 4 → (f.args.getD 0 default).op = 3) := let ⟨_, h⟩ := h; let h := bareQ_parts (allI_iff.1 h).1; ⟨h.1, h.2.1, h.2.2.2⟩
theorem Bare.canon {f : Fm} (h : Bare f) (hs : f.size ≤ manyN) : Bare (canonZ f) := let ⟨_, h⟩ := h; ⟨_, canonZ_bare f _ h hs⟩
theorem shp_empty {f : Fm} (h : shapedB f = true) (hn : (formZ f.op).named = false) : f.name = ⟨#[]⟩ := by
  have h8 := (shp_out h).2.2.2.2.2.2.2
  unfold nameOk at h8
  rw [hn] at h8
  exact empty_name h8
/-- The test of a signal. -/
theorem is_form {f : Fm} (h : Bare f) (h3 : f.op = 3) : f = .mk 3 f.name f.val f.bound [] := by
  conv => lhs; rw [← f.eta]
  rw [h3, no_arg (by rw [h3]; rfl) h.node.2.1]
theorem not_form {f : Fm} (h : Bare f) (h4 : f.op = 4) : ∃ g, f = .mk 4 f.name f.val f.bound [g] ∧ g.op = 3 ∧ f.args = [g] := by
  obtain ⟨_, hs, ha⟩ := h.node
  obtain ⟨g, hg⟩ := one_arg (by rw [h4]; rfl) (by rw [h4]; rfl) hs
  refine ⟨g, ?_, ?_, hg⟩
  · conv => lhs; rw [← f.eta]
    rw [h4, hg]
  · have := ha h4
    rw [hg] at this
    exact this
/-- A literal's negation. -/
theorem lit_neg {x : Fm} (hc : Can x) (hb : Bare x) (h4 : x.op = 4) : ∃ y, x.args.getD 0 default = y ∧ cn x = y ∧ cn y = x ∧ y.op = 3 := by
  obtain ⟨y, hx, h3, ha⟩ := not_form hb h4
  have hym : y ∈ x.args := by rw [ha]; simp
  have hy := is_form (hb.arg hym) h3
  have hyc := hc.arg y hym
  have hyb := hyc.node.bd
  rw [hyb] at hy
  obtain ⟨s1, s2, s3, s4, s5, s6, s7, s8⟩ := shp_out hb.node.2.1
  have hn : x.name = ⟨#[]⟩ := shp_empty hb.node.2.1 (by rw [h4]; rfl)
  have hv : x.val = 0 := by rw [h4] at s5; exact Int.le_antisymm s5 s4
  rw [hn, hv, hc.node.bd] at hx
  refine ⟨y, by rw [ha]; rfl, ?_, ?_, h3⟩
  · unfold cn
    rw [hx, kf_not]
    have : kf (!true) y = y := by
      rw [hy]
      exact kf_is _ _ _
    rw [this, hyc.canonZ]
  · unfold cn
    have : kf true y = x := by
      rw [hx]
      conv => lhs; rw [hy]
      rw [kf_isnot]
      conv => rhs; rw [hy]
      rfl
    rw [this, hc.canonZ]
theorem joinZ_nil0 (op : Int) : joinZ op [] = opF (unitZ op) [] := rfl
theorem joinZ_unit0 {op : Int} (hop : op = 5 ∨ op = 6) (m : List Fm) : joinZ op (opF (unitZ op) [] :: m) = joinZ op m := by
  have := joinZ_nest hop (l := []) (by simp) m
  rw [joinZ_nil0] at this
  exact this
theorem conj_form {op : Int} (hop : op = 5 ∨ op = 6) {x : Fm} (h : Can x) (ho : x.op = op) : x = opF op x.args := by
  obtain ⟨_, _, _, h4, h5, _⟩ := h.node.set (by rw [ho]; exact hop)
  conv => lhs; rw [← x.eta]
  rw [ho, h4, h5, h.node.bd]; rfl
theorem join_flat {op : Int} (hop : op = 5 ∨ op = 6) : ∀ (l : List Fm), (∀ g, g ∈ l → Can g ∧ Bare g) → ∀ m, joinZ (dop op) (l.map cn ++ m) = joinZ (dop op) ((flatZ op l).map cn ++ m)
  | [], _, _ => rfl
  | x :: l, h, m => by
    have ih := join_flat hop l fun g hg => h g (by simp [hg])
    obtain ⟨hx, hxb⟩ := h x (by simp)
    rw [List.map_cons, List.cons_append, flatZ_one, List.map_append]
    unfold partZ
    split
    · rename_i ho
      have e : cn x = joinZ (dop op) (x.args.map cn) := by
        conv => lhs; rw [conj_form hop hx ho]
        exact cn_conj hop _
      rw [e, joinZ_nest (dop_56 hop) fun g hg => by
        obtain ⟨y, hy, rfl⟩ := List.mem_map.1 hg
        exact (hxb.arg hy).cn]
      rw [joinZ_perm (m := l.map cn ++ (x.args.map cn ++ m)) fun z => by simp only [List.mem_append]; exact or_left_comm, ih]
      exact joinZ_perm fun z => by simp only [List.mem_append, or_assoc]; exact or_left_comm
    · split
      · rename_i hu
        have e : cn x = opF (unitZ (dop op)) [] := by
          rw [leaf_eq hx.node (by rw [hu]; exact unit_12 op), hu]
          exact cn_unit hop
        rw [e, joinZ_unit0 (dop_56 hop), ih]
        rfl
      · rw [joinZ_perm (m := l.map cn ++ (cn x :: m)) fun z => by simp only [List.mem_append, List.mem_cons]; exact or_left_comm, ih]
        exact joinZ_perm fun z => by
          simp only [List.mem_append, List.mem_cons, List.map_cons, List.map_nil, List.not_mem_nil, or_false, or_assoc]
          exact or_left_comm
theorem join_zero {op : Int} {l : List Fm} (h : opF (zeroZ op) [] ∈ l) : joinZ op l = opF (zeroZ op) [] := by
  unfold joinZ
  rw [if_pos (anyZ_iff.2 ⟨_, h, rfl⟩)]
/-- The canonical form of the negation of a conjunction of canonical formulas. -/
theorem cn_join {op : Int} (hop : op = 5 ∨ op = 6) {l : List Fm} (h : ∀ g, g ∈ l → Can g ∧ Bare g) : cn (joinZ op l) = joinZ (dop op) (l.map cn) := by
  have hfl : joinZ (dop op) (l.map cn) = joinZ (dop op) ((flatZ op l).map cn) := by
    have := join_flat hop l h []
    rwa [List.append_nil, List.append_nil] at this
  have hbare : ∀ x, x ∈ flatZ op l → Bare x := fun x hx => by
    obtain ⟨g, hg, hh⟩ := flatZ_mem hx
    rcases hh with ⟨_, hh⟩ | rfl
    · exact (h g hg).2.arg hh
    · exact (h _ hg).2
  rcases joinZ_cases hop (fun g hg => (h g hg).1) with ⟨hz, e⟩ | ⟨hz, ho, hx, hc⟩
  · rw [e, cn_zero hop]
    rcases hz with ⟨g, hg, hgz⟩ | ho
    · refine (join_zero ?_).symm
      rw [← cn_zero hop, ← hgz, ← leaf_eq (h g hg).1.node (by rw [hgz]; exact zero_12 op)]
      exact List.mem_map.2 ⟨g, hg, rfl⟩
    · rw [hfl]
      obtain ⟨x, hx, h4, hy⟩ := oppB_iff.1 ho
      obtain ⟨y, ey, e1, e2, h3⟩ := lit_neg (flat_can (fun g hg => (h g hg).1) hx) (hbare x hx) h4
      rw [ey] at hy
      have m1 : y ∈ (flatZ op l).map cn := List.mem_map.2 ⟨x, hx, e1⟩
      have m2 : x ∈ (flatZ op l).map cn := List.mem_map.2 ⟨y, hy, e2⟩
      by_cases hz : ∃ g, g ∈ (flatZ op l).map cn ∧ g.op = zeroZ (dop op)
      · unfold joinZ; rw [if_pos (anyZ_iff.2 hz)]
      · unfold joinZ
        rw [if_neg fun e => hz (anyZ_iff.1 e)]
        unfold setZ
        rw [if_pos]
        have part : ∀ z, z ∈ (flatZ op l).map cn → (z.op = 3 ∨ z.op = 4) → z ∈ flatZ (dop op) ((flatZ op l).map cn) := fun z hz ho => by
          unfold flatZ
          refine List.mem_flatMap.2 ⟨z, hz, ?_⟩
          unfold partZ
          have u := unit_12 (dop op)
          have d := dop_56 hop
          rw [if_neg (by omega), if_neg (by omega)]
          simp
        exact oppB_iff.2 ⟨x, (setF_mem _ _).2 (part x m2 (.inr h4)), h4, by rw [ey]; exact (setF_mem _ _).2 (part y m1 (.inl h3))⟩
  · have hset : joinZ (dop op) (l.map cn) = joinZ (dop op) ((setF (flatZ op l)).map cn) := by
      rw [hfl]
      refine joinZ_perm fun x => ?_
      rw [List.mem_map, List.mem_map]
      exact ⟨fun ⟨z, hz, e⟩ => ⟨z, (setF_mem _ _).2 hz, e⟩, fun ⟨z, hz, e⟩ => ⟨z, (setF_mem _ _).1 hz, e⟩⟩
    rw [hset]
    rcases hc with ⟨hs, e⟩ | ⟨x, hs, e⟩ | ⟨hl, e⟩
    · rw [e, hs, cn_unit hop]; rfl
    · rw [e, hs]
      exact (joinZ_one (dop_56 hop) (hbare x ((setF_mem _ _).1 (by rw [hs]; simp))).cn).symm
    · rw [e]; exact cn_conj hop _
theorem getD_mapF {l : List Fm} {i : Nat} (g : Fm → Fm) (hi : i < l.length) : (l.map g).getD i default = g (l.getD i default) := by simp [List.getD, hi]
theorem isC_cn {x : Fm} (h : Can x) (hc : isC x = true) : isC (cn x) = true := by
  have h' := hc
  unfold isC at h'
  simp only [Bool.or_eq_true, decide_eq_true_eq] at h'
  rw [leaf_eq h.node h']
  rcases h' with e | e <;> rw [e]
  · rw [cn_true]; rfl
  · rw [cn_false]; rfl
theorem loose_ops {o : Int} (h : (formZ o).loose = true) (ho : isOp o = true) : o = 3 ∨ o = 4 ∨ plainOp o := by
  rcases isOp_cases ho with rfl | rfl | rfl | rfl | rfl | rfl | rfl | rfl | rfl | rfl | rfl | rfl | rfl | rfl | rfl | rfl | rfl | rfl | rfl
  all_goals first | (cases h; done) | (unfold plainOp; omega)
theorem cn_plain {o : Int} (h : plainOp o) (n : ByteArray) (v b : Int) (l : List Fm) : cn (.mk o n v b l) = canO (opOut true o) n (valOut true o v) (l.map cn) := by
  unfold cn
  rw [kf_plain h, canonZ_eq]
  simp only [Fm.op, Fm.name, Fm.val, Fm.args, List.map_map]
  rfl
/-- The negation of the canonical form has the canonical form of the negation. -/
theorem cn_canon (f : Fm) : Bare f → f.size ≤ manyN → cn (canonZ f) = cn f := by
  induction f using Fm.ind with
  | h f ih =>
    intro hb hz
    obtain ⟨p1, p2, p4⟩ := hb.node
    obtain ⟨s1, s2, s3, s4, s5, s6, s7, s8⟩ := shp_out p2
    have hsz : ∀ g, g ∈ f.args → g.size ≤ manyN := fun g hg => by
      have := sizes_mem hg
      have := Fm.size_eq f
      omega
    rcases loose_ops p1 s1 with h3 | h4 | hp
    · have hf := is_form hb h3
      have e : canonZ f = .mk 3 f.name f.val 0 [] := by conv => lhs; rw [hf, canonZ_eq]
                                                        rfl
      rw [e]
      conv => rhs; rw [hf]
      unfold cn
      rw [kf_isnot, kf_isnot]
    · obtain ⟨g, hf, h3, ha⟩ := not_form hb h4
      have hg := is_form (hb.arg (g := g) (by rw [ha]; simp)) h3
      have eg : canonZ g = .mk 3 g.name g.val 0 [] := by conv => lhs; rw [hg, canonZ_eq]
                                                         rfl
      have e : canonZ f = .mk 4 f.name f.val 0 [canonZ g] := by conv => lhs; rw [hf, canonZ_eq]
                                                                rfl
      rw [e]
      conv => rhs; rw [hf]
      unfold cn
      rw [kf_not, kf_not, eg]
      conv => rhs; rw [hg]
      rw [show (!true) = false from rfl, kf_is, kf_is]
    · have hm : (f.args.map canonZ).map cn = f.args.map cn := by
        rw [List.map_map]
        exact List.map_congr_left fun g hg => ih g hg (hb.arg hg) (hsz g hg)
      have hcs : ∀ g, g ∈ f.args.map canonZ → Can g ∧ Bare g := fun g hg => by
        obtain ⟨x, hx, rfl⟩ := List.mem_map.1 hg
        obtain ⟨ins, hi⟩ := hb.arg hx
        exact ⟨canonZ_can x _ hi, ⟨ins, canonZ_bare x _ hi (hsz x hx)⟩⟩
      have hat : ∀ i, i < f.args.length → Can ((f.args.map canonZ).getD i default) := fun i hi => (hcs _ (getD_memF (by simpa using hi))).1
      have key : cn f = canO (opOut true f.op) f.name (valOut true f.op f.val) ((f.args.map canonZ).map cn) := by
        rw [hm, ← cn_plain hp f.name f.val f.bound, f.eta]
      rw [key, canonZ_eq]
      have hlen : (f.args.map canonZ).length = f.args.length := List.length_map ..
      generalize f.args.map canonZ = xs at hcs hat hlen
      generalize f.name = n
      generalize f.val = v
      generalize hL : f.args.length = k at hlen s2 s3 hat
      generalize f.op = o at hp s2 s3
      rcases hp with rfl | rfl | rfl | rfl | rfl | rfl | rfl | rfl | rfl | rfl
      · exact cn_plain (.inl rfl) n v 0 xs
      · exact cn_plain (.inr (.inl rfl)) n v 0 xs
      · exact cn_join (.inl rfl) hcs
      · exact cn_join (.inr rfl) hcs
      · have h0 : 0 < k := s2
        have e : ∀ v ys, canO 8 n v ys = if isC (ys.getD 0 default) = true then ys.getD 0 default else .mk 8 n v 0 ys := fun v ys => by unfold canO; simp
        show _ = canO 8 n v (xs.map cn)
        by_cases hc : isC (xs.getD 0 default) = true
        · rw [e, if_pos hc, e, if_pos (by rw [getD_mapF _ (by omega)]; exact isC_cn (hat 0 h0) hc), getD_mapF _ (by omega)]
        · rw [e, if_neg hc]
          exact cn_plain (.inr (.inr (.inr (.inr (.inl rfl))))) n v 0 xs
      · have h1 : 2 ≤ k := s2
        have e : ∀ v ys, canO 9 n v ys = if isC (ys.getD 1 default) = true ∨ (ys.getD 0 default).op = 2 then ys.getD 1 default else .mk 9 n v 0 ys := fun v ys => by unfold canO; simp
        have e2 : ∀ v ys, canO 10 n v ys = if isC (ys.getD 1 default) = true ∨ (ys.getD 0 default).op = 1 then ys.getD 1 default else .mk 10 n v 0 ys := fun v ys => by unfold canO; simp
        show _ = canO 10 n v (xs.map cn)
        by_cases hc : isC (xs.getD 1 default) = true ∨ (xs.getD 0 default).op = 2
        · rw [e, if_pos hc, e2, if_pos, getD_mapF _ (by omega)]
          rw [getD_mapF _ (by omega), getD_mapF _ (by omega)]
          rcases hc with hc | hc
          · exact .inl (isC_cn (hat 1 (by omega)) hc)
          · right
            rw [leaf_eq (hat 0 (by omega)).node (.inr hc), hc, cn_false]; rfl
        · rw [e, if_neg hc]
          exact cn_plain (.inr (.inr (.inr (.inr (.inr (.inl rfl)))))) n v 0 xs
      · have h1 : 2 ≤ k := s2
        have e : ∀ v ys, canO 9 n v ys = if isC (ys.getD 1 default) = true ∨ (ys.getD 0 default).op = 2 then ys.getD 1 default else .mk 9 n v 0 ys := fun v ys => by unfold canO; simp
        have e2 : ∀ v ys, canO 10 n v ys = if isC (ys.getD 1 default) = true ∨ (ys.getD 0 default).op = 1 then ys.getD 1 default else .mk 10 n v 0 ys := fun v ys => by unfold canO; simp
        show _ = canO 9 n v (xs.map cn)
        by_cases hc : isC (xs.getD 1 default) = true ∨ (xs.getD 0 default).op = 1
        · rw [e2, if_pos hc, e, if_pos, getD_mapF _ (by omega)]
          rw [getD_mapF _ (by omega), getD_mapF _ (by omega)]
          rcases hc with hc | hc
          · exact .inl (isC_cn (hat 1 (by omega)) hc)
          · right
            rw [leaf_eq (hat 0 (by omega)).node (.inl hc), hc, cn_true]; rfl
        · rw [e2, if_neg hc]
          exact cn_plain (.inr (.inr (.inr (.inr (.inr (.inr (.inl rfl))))))) n v 0 xs
      · exact cn_plain (.inr (.inr (.inr (.inr (.inr (.inr (.inr (.inl rfl)))))))) n v 0 xs
      · exact cn_plain (.inr (.inr (.inr (.inr (.inr (.inr (.inr (.inr (.inl rfl))))))))) n v 0 xs
      · exact cn_plain (.inr (.inr (.inr (.inr (.inr (.inr (.inr (.inr (.inr rfl))))))))) n v 0 xs
/-! Sizes. -/
theorem sizes_map2 : ∀ {l : List Fm}, (∀ g, g ∈ l → (kf true g).size ≤ 2 * g.size) → sizes (l.map (kf true)) ≤ 2 * sizes l
  | [], _ => Nat.le_refl _
  | f :: l, h => by
    have h1 := h f (by simp)
    have h2 := sizes_map2 (l := l) fun g hg => h g (by simp [hg])
    simp only [List.map_cons, sizes]
    omega
theorem depths_map1 : ∀ {l : List Fm}, (∀ g, g ∈ l → (kf true g).depth ≤ g.depth + 1) → depths (l.map (kf true)) ≤ depths l + 1
  | [], _ => by simp [depths]
  | f :: l, h => by
    have h1 := h f (by simp)
    have h2 := depths_map1 (l := l) fun g hg => h g (by simp [hg])
    simp only [List.map_cons, depths]
    omega
/-- The negation of a formula is less than twice as long, unless it is a leaf. -/
theorem neg_size (f : Fm) : Bare f → (kf true f).size + (if f.args = [] then 0 else 1) ≤ 2 * f.size ∧ (kf true f).depth ≤ f.depth + 1 := by
  induction f using Fm.ind with
  | h f ih =>
    intro hb
    obtain ⟨p1, p2, p4⟩ := hb.node
    obtain ⟨s1, s2, s3, s4, s5, s6, s7, s8⟩ := shp_out p2
    rcases loose_ops p1 s1 with h3 | h4 | hp
    · have hf := is_form hb h3
      rw [hf, kf_isnot]
      simp [Fm.args, opF, isF, Fm.size, sizes, Fm.depth, depths]
    · obtain ⟨g, hf, h3, ha⟩ := not_form hb h4
      have hg := is_form (hb.arg (g := g) (by rw [ha]; simp)) h3
      rw [hf, kf_not, hg, show (!true) = false from rfl, kf_is]
      simp [Fm.args, Fm.size, sizes, Fm.depth, depths]
    · have e : kf true f = .mk (opOut true f.op) f.name (valOut true f.op f.val) 0 (f.args.map (kf true)) := by rw [← kf_plain hp f.name f.val f.bound, f.eta]
      have a1 := Fm.size_eq f
      have a2 := Fm.depth_eq f
      have a3 : (kf true f).size = 1 + sizes (f.args.map (kf true)) := by rw [e]; exact Fm.size_eq _
      have a4 : (kf true f).depth = 1 + depths (f.args.map (kf true)) := by rw [e]; exact Fm.depth_eq _
      have h1 := sizes_map2 (l := f.args) fun g hg => by have := (ih g hg (hb.arg hg)).1; omega
      have h2 := depths_map1 (l := f.args) fun g hg => (ih g hg (hb.arg hg)).2
      constructor
      · split <;> omega
      · omega
theorem neg_size2 {f : Fm} (h : Bare f) : (kf true f).size ≤ 2 * f.size := by have := (neg_size f h).1; omega
theorem neg_199 {f : Fm} (h : Bare f) (hs : f.size ≤ 100) : (kf true f).size ≤ 199 := by
  have h1 := (neg_size f h).1
  by_cases ha : f.args = []
  · have := Fm.size_eq f
    rw [ha] at this
    simp only [sizes] at this
    rw [if_pos ha] at h1
    omega
  · rw [if_neg ha] at h1
    omega
theorem part_199 {op : Int} {f : Fm} (h : Bare f) (hs : f.size ≤ 100) : sizes ((partZ op f).map (kf true)) ≤ 199 := by
  unfold partZ
  split
  · have h1 := sizes_map2 (l := f.args) fun g hg => neg_size2 (h.arg hg)
    have := Fm.size_eq f
    omega
  · split
    · simp [sizes]
    · have := neg_199 h hs
      simp only [List.map_cons, List.map_nil, sizes]
      omega
theorem insF_map (F : Fm → Fm) (x : Fm) : ∀ l : List Fm, sizes ((insF x l).map F) ≤ (F x).size + sizes (l.map F)
  | [] => by simp [insF, sizes]
  | y :: l => by
    have := insF_map F x l
    unfold insF
    split
    · simp [sizes]
    · split
      · simp [sizes]
      · simp only [List.map_cons, sizes]; omega
theorem setF_map (F : Fm → Fm) : ∀ gs : List Fm, sizes ((setF gs).map F) ≤ sizes (gs.map F)
  | [] => Nat.le_refl _
  | x :: gs => by
    have := setF_map F gs
    have h := insF_map F x (setF gs)
    show sizes ((insF x (setF gs)).map F) ≤ _
    simp only [List.map_cons, sizes]
    omega
theorem join_neg {op : Int} (hop : op = 5 ∨ op = 6) {l : List Fm} (h : ∀ g, g ∈ l → Can g) : (kf true (joinZ op l)).size ≤ 1 + sizes ((flatZ op l).map (kf true)) := by
  have hs := setF_map (kf true) (flatZ op l)
  rcases joinZ_cases hop h with ⟨hz, e⟩ | ⟨hz, ho, hx, ⟨_, e⟩ | ⟨x, hs', e⟩ | ⟨hl, e⟩⟩
  · rw [e]
    have : kf true (opF (zeroZ op) []) = opF (zeroZ (dop op)) [] := by rcases hop with rfl | rfl <;> rfl
    rw [this, leaf_size]; omega
  · rw [e]
    have : kf true (opF (unitZ op) []) = opF (unitZ (dop op)) [] := by rcases hop with rfl | rfl <;> rfl
    rw [this, leaf_size]; omega
  · rw [e]
    rw [hs'] at hs
    simp only [List.map_cons, List.map_nil, sizes] at hs
    omega
  · rw [e, kf_conj hop]
    show 1 + sizes ((setF (flatZ op l)).map (kf true)) ≤ _
    omega
theorem low_bare {f : Fm} (h : lowB f = true) : Bare f := ⟨false, (loose_out (low_out h).2.2).2.2⟩
theorem bare_loose {ins : Bool} {f : Fm} (h1 : f.size ≤ 400) (h2 : f.depth ≤ 60) (h : looseB f = true ∨ allI bareQ false f) : looseB f = true := h.elim id (loose_of h1 h2)
theorem loose_kf {f : Fm} (h : looseB f = true) (h1 : (kf true f).size ≤ 400) (h2 : (kf true f).depth ≤ 60) : notZ f = kf true f ∧ looseB (kf true f) = true := by
  have hb := (loose_out h).2.2
  constructor
  · unfold notZ
    rw [if_pos]
    rw [Bool.and_eq_true, fits_true]
    exact ⟨h, by omega, by omega⟩
  · exact loose_of h1 h2 (kf_bare f _ (allI_shp hb) (allI_lay hb) true)
theorem low_not {f : Fm} (h : lowB f = true) : notZ f = kf true f ∧ looseB (kf true f) = true ∧ (kf true f).size ≤ 199 ∧ (kf true f).depth ≤ 51 := by
  obtain ⟨h1, h2, h3⟩ := low_out h
  have hb := low_bare h
  have hs := neg_199 hb h1
  have hd := (neg_size f hb).2
  obtain ⟨a, b⟩ := loose_kf h3 (by omega) (by omega)
  exact ⟨a, b, hs, by omega⟩
theorem canonical_loose {f : Fm} (h : looseB f = true) : canonicalZ f = canonZ f := by
  unfold canonicalZ; rw [if_pos h]
theorem canon_low {f : Fm} (h : lowB f = true) : lowB (canonZ f) = true := by
  have := low_canon h
  unfold lowB
  rw [decide_eq_true this.size, decide_eq_true this.depth, this.loose]; rfl
/-- The negation's canonical form. -/
theorem dual_not {f : Fm} (h : lowB f = true) : canonicalZ (notZ f) = canonicalZ (notZ (canonicalZ f)) := by
  obtain ⟨h1, h2, h3⟩ := low_out h
  obtain ⟨n1, n2, _⟩ := low_not h
  obtain ⟨m1, m2, _⟩ := low_not (canon_low h)
  rw [canonical_loose h3, n1, m1, canonical_loose n2, canonical_loose m2]
  exact (cn_canon f (low_bare h) (many_ge (by omega))).symm
/-- The negation of a conjunction is the disjunction of the negations. -/
theorem dual_join {op : Int} (hop : op = 5 ∨ op = 6) {f g : Fm} (hf : lowB f = true) (hg : lowB g = true) : canonicalZ (notZ (connZ op [f, g])) = connZ (dop op) [notZ f, notZ g] := by
  obtain ⟨f1, f2, f3⟩ := low_out hf
  obtain ⟨g1, g2, g3⟩ := low_out hg
  obtain ⟨n1, n2, n3, n4⟩ := low_not hf
  obtain ⟨m1, m2, m3, m4⟩ := low_not hg
  have lf := low_canon hf
  have lg := low_canon hg
  obtain ⟨e, L⟩ := conn_two hop f3 g3 lf lg (by omega) (by omega)
  have hcs : ∀ x, x ∈ [canonZ f, canonZ g] → Can x ∧ Bare x := by
    rintro x hx
    simp at hx
    rcases hx with rfl | rfl
    · exact ⟨lf.can, low_bare (canon_low hf)⟩
    · exact ⟨lg.can, low_bare (canon_low hg)⟩
  have hjs : (kf true (connZ op [f, g])).size ≤ 400 := by
    rw [e]
    have h1 := join_neg hop (l := [canonZ f, canonZ g]) fun x hx => (hcs x hx).1
    have h2 := part_199 (op := op) (low_bare (canon_low hf)) lf.size
    have h3 := part_199 (op := op) (low_bare (canon_low hg)) lg.size
    rw [flatZ_one, flatZ_one, List.map_append, sizes_append, List.map_append, sizes_append] at h1
    have : sizes ((flatZ op []).map (kf true)) = 0 := rfl
    omega
  have hjd : (kf true (connZ op [f, g])).depth ≤ 60 := by
    have h1 := (neg_size (connZ op [f, g]) ⟨false, (loose_out L.loose).2.2⟩).2
    have h2 := L.depth
    omega
  obtain ⟨j1, j2⟩ := loose_kf L.loose hjs hjd
  rw [j1, canonical_loose j2, n1, m1]
  have hc : ∀ {x : Fm} (hx : lowB x = true), Low (canonZ (kf true x)) 199 51 := fun hx => by
    obtain ⟨x1, x2, x3, x4⟩ := low_not hx
    exact ⟨loose_can x2, loose_canon x2, Nat.le_trans (canonZ_size _) x3, Nat.le_trans (canonZ_depth _) x4⟩
  rw [(conn_two (dop_56 hop) n2 m2 (hc hf) (hc hg) (by omega) (by omega)).1, e]
  show cn (joinZ op [canonZ f, canonZ g]) = _
  rw [cn_join hop hcs]
  show joinZ (dop op) [cn (canonZ f), cn (canonZ g)] = _
  rw [cn_canon f (low_bare hf) (many_ge (by omega)), cn_canon g (low_bare hg) (many_ge (by omega))]
  rfl
end Go.Proofs.YtahgbgniaiccbaaGreatDoor
