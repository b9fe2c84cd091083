/-
  Conjunctions and disjunctions of canonical formulas, plain.
  Walk of join.
-/
import Derived.Test.YtdakdpfofgkjoaaGreatDoorZ24
set_option linter.unusedVariables false
set_option linter.unusedSimpArgs false
namespace Go.Proofs.YtdakdpfofgkjoaaGreatDoor

def unitZ (op : Int) : Int := if op = 6 then 2 else 1
def zeroZ (op : Int) : Int := if op = 6 then 1 else 2
/-- What an argument gives to the list. -/
def partZ (op : Int) (x : Fm) : List Fm := if x.op = op then x.args else if x.op = unitZ op then [] else [x]
def flatZ (op : Int) (l : List Fm) : List Fm := l.flatMap (partZ op)
/-- The canonical form of a list's conjunction or disjunction, the list's nodes being canonical. -/
def setZ (op : Int) (s : List Fm) : Fm := if oppB s then opF (zeroZ op) [] else match s with
  | [] => opF (unitZ op) []
  | [x] => x
  | s => opF op s
def joinZ (op : Int) (l : List Fm) : Fm := if l.any (fun x => decide (x.op = zeroZ op)) then opF (zeroZ op) [] else setZ op (setF (flatZ op l))
theorem flatZ_snoc (op : Int) (l : List Fm) {i : Nat} (hi : i < l.length) : flatZ op (l.take (i + 1)) = flatZ op (l.take i) ++ partZ op (l.getD i default) := by
  unfold flatZ
  rw [take_succ_getD l default hi, List.flatMap_append]
  simp
theorem partZ_size (op : Int) (x : Fm) : ∀ f, f ∈ partZ op x → f.size ≤ x.size := by
  intro f hf
  unfold partZ at hf
  split at hf
  · have := sizes_mem hf
    have := Fm.size_eq x
    omega
  · split at hf
    · cases hf
    · rw [List.mem_singleton] at hf
      rw [hf]; exact Nat.le_refl _
theorem partZ_len (op : Int) (x : Fm) : (partZ op x).length ≤ x.size := by
  unfold partZ
  have h1 := args_sizes x.args
  have h2 := Fm.size_eq x
  split
  · omega
  · split
    · simp
    · simp; omega
theorem flatZ_len (op : Int) : ∀ l : List Fm, (flatZ op l).length ≤ sizes l
  | [] => Nat.le_refl _
  | x :: l => by
    have := flatZ_len op l
    have h := partZ_len op x
    unfold flatZ at this ⊢
    rw [List.flatMap_cons, List.length_append]
    simp only [sizes]
    omega
theorem flatZ_size (op : Int) (l : List Fm) : ∀ f, f ∈ flatZ op l → f.size ≤ sizes l := by
  intro f hf
  unfold flatZ at hf
  rw [List.mem_flatMap] at hf
  obtain ⟨x, hx, hf⟩ := hf
  have := partZ_size op x f hf
  have := sizes_mem hx
  omega
end Go.Proofs.YtdakdpfofgkjoaaGreatDoor
set_option linter.unusedVariables false
set_option linter.unusedSimpArgs false
namespace Go.Proofs.YtdakdpfofgkjoaaGreatDoor
open Go.RowKit Go.Shelf
attribute [local go_sem] cell_alloc_old buildF_o

/-- No node has operator 0. -/
def nzQ (x : Fm × Bool) : Bool := decide (x.1.op ≠ 0)
/-- A block that holds the zero formula holds no argument of a formula whose nodes all have an operator. -/
theorem RdA.avoid {w : World} {D : Dom} {l : List Fm} {A : Option Addr} {c r : Nat} (h : RdA w D l A c) (hr : OB w r 0 ⟨#[]⟩ 0 0 none 0 0) (hn : ∀ f, f ∈ l → ∃ ins, allI nzQ ins f) : RdA w (fun k => D k ∧ k ≠ r) l A c := by
  induction h with
  | mk l A c sl len cells arg ih =>
    refine .mk l A c sl len ⟨cells.1, fun h0 => ?_⟩ fun i hi => ih i hi fun g hg => ?_
    · obtain ⟨b, o, e, hb, hl, hc⟩ := cells.2 h0
      refine ⟨b, o, e, ⟨hb, ?_⟩, hl, hc⟩
      rintro rfl
      have c0 := hc 0 (.int .i64 (l.getD 0 default).op) (by have := cellsF_at len (k := 0) (j := 0) h0 (by omega); simpa [fcells] using this)
      have c4 := hc 4 (.slice (sl.getD 0 (none, 0)).1 (l.getD 0 default).args.length (sl.getD 0 (none, 0)).2) (by have := cellsF_at len (k := 0) (j := 4) h0 (by omega); simpa [fcells] using this)
      have ho : o = 0 := by
        unfold OB at hr
        simp only [World.cell?, hr] at c4
        rcases o with _ | o
        · rfl
        · simp at c4
      subst ho
      have e0 := hr.cells.1
      rw [Nat.zero_add, e0] at c0
      injection c0 with c0
      injection c0 with _ c0
      obtain ⟨ins, ha⟩ := hn (l.getD 0 default) (getD_memF h0)
      have := (allI_iff.1 ha).1
      unfold nzQ at this
      rw [← c0] at this
      simp at this
    · obtain ⟨ins, ha⟩ := hn (l.getD i default) (getD_memF hi)
      exact ⟨_, (allI_iff.1 ha).2 g hg⟩
theorem RdA.over {w w' : World} {base b c : Nat} {l : List Fm} {A : Option Addr} (h : RdA w (fun k => Nw base w k ∧ k ≠ b) l A c) (hc : Chg (fun x => x = b) w w') : RdA w' (Nw base w') l A c := by
  have hk : Keeps (fun k => Nw base w k ∧ k ≠ b) w w' := hc.keeps fun k _ hk hv => hk.2 hv
  exact (h.keep hk).mono fun k hk' _ => ⟨hk'.1.1, hk'.1.2.of_eq (hk.block k hk' hk'.1.2.lt)⟩
theorem RdA.clip {w : World} {D : Dom} {c : Nat} {l : List Fm} {A : Option Addr} (h : RdA w D l A c) : RdA w D l A l.length := by
  obtain ⟨sl, h1, h2, h3⟩ := h.out
  have := h2.1
  exact .mk l A _ sl h1 ⟨⟨this.1, this.2.1, Nat.le_refl _, by omega⟩, h2.2⟩ h3
theorem FRow.first {w : World} {base g c : Nat} {x : Fm} {gs : List Fm} {sl : List (Option Addr × Nat)} (h : FRow w base (some ⟨g, 0, none⟩) c (x :: gs) sl) : ∃ A' c', g < w.heap.size ∧
    w.cell? ⟨g, 0, none⟩ = some (.int .i64 x.op) ∧ w.cell? ⟨g, 1, none⟩ = some (.string x.name) ∧ w.cell? ⟨g, 2, none⟩ = some (.int .i64 x.val) ∧ w.cell? ⟨g, 3, none⟩ = some (.int .i64 x.bound) ∧ w.cell? ⟨g, 4, none⟩ = some (.slice A' x.args.length c') ∧
    RdA w (Nw base w) x.args A' c' := by
  obtain ⟨A', c', f, hf, hs, q0, q1, q2, q3, q4, _, _, _, _, _, hl, ha⟩ := h.get (i := 0) (by simp)
  have hf := hf.out
  have : x = f := by simpa using hf
  subst this
  refine ⟨A', c', hl, ?_, ?_, ?_, ?_, ?_, ha.mono fun k hk _ => hk.1⟩
  · simpa using q0
  · simpa using q1
  · simpa using q2
  · simpa using q3
  · simpa using q4

set_option maxRecDepth 100000 in
set_option maxHeartbeats 8000000 in
theorem join_any {w : World} {base c n : Nat} {A : Option Addr} {l : List Fm} {op : Int} (h : RdA w (Nw base w) l A c) (hn : n = l.length) (hop : op = 5 ∨ op = 6) (hb : base ≤ w.heap.size) (hsz : sizes l ≤ 1000000) (h4 : ∀ f, f ∈ flatZ op l → f.op = 4 → 0 < f.args.length) (hnz : ∀ f, f ∈ flatZ op l → ∃ ins, allI nzQ ins f) :
    Calls Tryz.prog 79 #[.int .i64 op, .slice A n c] w fun e w' => ∃ v, e = .returned v ∧ RdF3 w' (Nw base w') v (joinZ op l) ∧ Below w.heap.size w w' := by
  subst hn
  obtain ⟨i0, hti, hz0, hz1, hz2⟩ := info_parts formula_info
  have HL := hid h
  have H4 := hid h4
  have HNZ := hid hnz
  have hal := h.len.1
  clear h h4 hnz
  go_enter Tryz.func79, Tryz.ntmps79
  go_upto_region 1 with (fail)
  refine wp_gen fun W hW => ?_
  have HB := hid (show Below w.heap.size w W by rw [hW]; go_grown)
  have HR := hid (show OB W w.heap.size 0 ⟨#[]⟩ 0 0 none 0 0 by rw [hW]; exact at_new _ _ _ rfl)
  clear hW
  go_upto_region 2 with (fail)
  rename_i K4 hK4 K3 hK3
  refine wp_tail K4 [5, 6, 10, 11, 12, 13] (fun us W' => us 5 = .int .i64 (unitZ op) ∧ us 6 = .int .i64 (zeroZ op) ∧ W' = W) ?_ ?_
  rotate_left
  · intro HTAIL
    have HTL := hid HTAIL
    clear HTAIL hK4
    rcases hop with rfl | rfl
    · go_wp2_with fail
      refine tail_close HTL.out ⟨rfl, rfl, rfl⟩ ?_
      kernel_rfl
    · go_wp2_with fail
      refine tail_close HTL.out ⟨rfl, rfl, rfl⟩ ?_
      kernel_rfl
  · rintro us W1 ⟨hu5, hu6, rfl⟩
    apply hK4
    simp only [putAll, Act.put, List.setIfInBounds_toArray, List.set_cons_zero, List.set_cons_succ]
    rw [hu5, hu6]
    clear hK4 hK3 K4 K3
    obtain ⟨uz, huz⟩ : ∃ uz, uz = unitZ op := ⟨_, rfl⟩
    obtain ⟨zz, hzz⟩ : ∃ zz, zz = zeroZ op := ⟨_, rfl⟩
    have hd : op ≠ zz ∧ op ≠ uz ∧ uz ≠ zz := by rcases hop with rfl | rfl <;> rw [huz, hzz] <;> decide
    rw [← huz, ← hzz]
    have HU := hid huz
    have HZ := hid hzz
    clear huz hzz
    have HLO := hid (HL.out.mono (E := fun k => Nw base w k ∧ k < w.heap.size) fun k hk hl => ⟨hk, hl⟩)
    go_wp2_with fail
    go_loopw [7, 16] (fun q r wr => ∃ (i : Nat) (A2 : Option Addr) (c2 : Nat) (sl : List (Option Addr × Nat)), i ≤ l.length ∧ r = .int .i64 (i : Int) ∧ q = .slice A2 (flatZ op (l.take i)).length c2 ∧ FRow wr base A2 c2 (flatZ op (l.take i)) sl ∧ Below W1.heap.size W1 wr ∧
      (∀ k, (Value.slice A2 (flatZ op (l.take i)).length c2).ownBlock = some k → W1.heap.size ≤ k) ∧ (∀ k, k < i → (l.getD k default).op ≠ zz)) (fun _ r _ => l.length - (intOf r).toNat)
    case atStart => exact ⟨0, none, 0, [], Nat.zero_le _, rfl, rfl, FRow.nil _ _, Below.refl _ _, fun k h => (by change (none : Option Nat) = some k at h; cases h), fun k h => absurd h (Nat.not_lt_zero _)⟩
    case round =>
      obtain ⟨i, A2, c2, sl, hi, rfl, rfl, hr, hbl, hown, hall⟩ := hrel
      have HRO := hid hr
      have HBL := hid hbl
      have HOWN := hid hown
      have HALL := hid hall
      have HBB := hid (HB.out.trans (hbl.mono HB.out.size))
      have HLr := hid (HLO.out.keep (Keeps.of_below HBB.out fun _ h => h.2))
      clear hr hbl hown hall
      by_cases hlt : i < l.length
      · have hii : (i : Int) < l.length := by omega
        obtain ⟨b1, o1, A', c', f, rfl, HX, hf⟩ := HLr.out.get hlt
        have HF := hid hf
        have HXX := hid HX.out
        obtain ⟨q1, q2, p0, p1, p2, p3, p4, q3⟩ := hf
        clear q1 q3 HX
        go_upto_region 8 with (fail)
        refine wp_gen fun W8 hW8 => ?_
        have HB8 := hid (show Below wr.heap.size wr W8 by rw [hW8]; exact (Below.refl _ _).alloc (Nat.le_refl _) _)
        have HE := hid (show OB W8 wr.heap.size f.op f.name f.val f.bound A' f.args.length c' by rw [hW8]; exact at_new _ _ _ rfl)
        have HRO8 := hid (show FRow W8 base A2 c2 (flatZ op (l.take i)) sl by rw [hW8]; exact HRO.out.alloc _)
        obtain ⟨x0, x1, x2, x3, x4, xl⟩ := HE.out.cells
        clear hW8 p0 p1 p2 p3 p4 q2
        rename_i K15 hK15 K9 hK9
        trace "NAMES"
        have HSN := hid (flatZ_snoc op l hlt)
        have HFL := hid (show (flatZ op (l.take (i + 1))).length ≤ 1000000 from Nat.le_trans (flatZ_len op _) (Nat.le_trans (sizes_take l (i + 1)) hsz))
        refine wp_tail K15 (7 :: List.range' 20 21) (fun us W' => ∃ A3 c3 sl3, us 7 = .slice A3 (flatZ op (l.take (i + 1))).length c3 ∧ FRow W' base A3 c3 (flatZ op (l.take (i + 1))) sl3 ∧ Below W1.heap.size W1 W' ∧ (∀ k, (Value.slice A3 (flatZ op (l.take (i + 1))).length c3).ownBlock = some k → W1.heap.size ≤ k) ∧ f.op ≠ zz) ?_ ?_
        · rintro us2 W15 ⟨A3, c3, sl3, hu7, hr3, hb3, ho3, hz3⟩
          apply hK15
          simp only [putAll, List.range', List.range'_succ, Act.put, List.setIfInBounds_toArray, List.set_cons_zero, List.set_cons_succ]
          rw [hu7]
          clear hK15 hK9 K15 K9 x0 x1 x2 x3 x4 xl
          have HALL2 := hid (show ∀ k, k < i + 1 → (l.getD k default).op ≠ zz from fun k hk => by
            rcases Nat.lt_succ_iff_lt_or_eq.1 hk with h | h
            · exact HALL.out k h
            · rw [h, HXX.out]; exact hz3)
          go_wp2_with fail
          go_roundw
          case rel => exact ⟨i + 1, A3, c3, sl3, by omega, by go_num, rfl, hr3, hb3, ho3, HALL2.out⟩
          case measure => simp [intOf]; omega
        · intro HTAIL
          have HTL := hid HTAIL
          clear HTAIL hK15
          have hnl : (flatZ op (l.take i)).length ≤ 1000000 := Nat.le_trans (flatZ_len op _) (Nat.le_trans (sizes_take l i) hsz)
          have hba : base ≤ W8.heap.size := by have := HBB.out.size; have := HB8.out.size; omega
          by_cases e1 : f.op = op
          · have d1 : (f.op == op) = true := by rw [e1]; simp
            have HPZ := hid (show partZ op f = f.args by unfold partZ; rw [if_pos e1])
            have hne : f.op ≠ zz := by rw [e1]; exact hd.1
            have HNE := hid hne
            have HFA := hid (HF.out.args.keep (Keeps.of_below HB8.out fun k hk => Nat.lt_of_lt_of_le hk.2 HBB.out.size))
            obtain ⟨slx, hlx, hcx, hax⟩ := HFA.out.out
            have HAX := hid hax
            have HLX := hid hlx
            have hfl : f.args.length ≤ 1000000 := by
              have h1 := args_sizes f.args
              have h2 := Fm.size_eq f
              have h3 := sizes_mem (show f ∈ l by have := HXX.out; rw [← this]; exact getD_memF hlt)
              omega
            have hone : ∀ u ∈ cellsF f.args slx, u.oneCell' = true := fun u hu => by
              unfold cellsF at hu
              obtain ⟨p, _, hp⟩ := List.mem_flatMap.1 hu
              simp [fcells] at hp
              rcases hp with rfl | rfl | rfl | rfl | rfl <;> rfl
            clear e1 hax hlx hne
            go_wp2_with (at_builtin; go_must (refine wpList_append_rd _ rfl (.tmp 29) (.tmp 31) 26 rfl base 28 i0 _ 5 64 Tryz.underlying26 hti hz0 hz1 hz2 rfl (by omega) (.slice A2 (flatZ op (l.take i)).length c2) (flatZ op (l.take i)).length _ rfl HRO8.out.own _ A' f.args.length c' _ rfl hcx hone (by omega) (maxLen_le (by omega)) hba ?_); intro A5 c5 w5 hown5 hg5 hat5)
            refine tail_close HTL.out ?_ ?_
            · rw [HSN.out, HXX.out, HPZ.out]
              have hms : ∀ k, k < f.args.length → RdA W8 (fun x => Nw base W8 x ∧ (Value.slice A2 (flatZ op (l.take i)).length c2).ownBlock ≠ some x) (f.args.getD k default).args (slx.getD k (none, 0)).1 (slx.getD k (none, 0)).2 := fun k hk => (HAX.out k hk).mono fun x hx _ => ⟨⟨hx.1.1, hx.1.2.of_eq ((HBB.out.trans (HB8.out.mono HBB.out.size)).block x hx.2)⟩, fun e => by have := HOWN.out x e; have := HB.out.size; omega⟩
              refine ⟨A5, c5, sl ++ slx, by rw [List.length_append]; rfl, HRO8.out.app hg5 (by rw [List.length_append]) hown5 hat5 HLX.out hms, Below.grown (HBL.out.trans (HB8.out.mono HBL.out.size)) hg5 (Nat.le_trans HBL.out.size HB8.out.size) (fun k hk => HOWN.out k hk), fun k hk => ?_, HNE.out⟩
              rw [List.length_append] at hk
              rcases hat5 with h | h
              · exact HOWN.out k (h.symm.trans hk)
              · have := h.symm.trans hk
                injection this with this
                rw [← this]; exact Nat.le_trans HBL.out.size HB8.out.size
            · kernel_rfl
          · have d1 : (f.op == op) = false := beq_false_of e1
            by_cases e2 : f.op = zz
            · have d2 : (f.op == zz) = true := by rw [e2]; simp
              have HJ := hid (show joinZ op l = opF zz [] by
                unfold joinZ
                rw [HZ.out, if_pos]
                rw [List.any_eq_true]
                refine ⟨f, by have := HXX.out; rw [← this]; exact getD_memF hlt, ?_⟩
                rw [← HZ.out]; exact decide_eq_true e2)
              have hr := (HR.out.below (HBL.out.mono (Nat.le_refl _))).below HB8.out
              obtain ⟨r0, r1, r2, r3, r4, rl⟩ := hr.cells
              have p0 := hr.free 0
              have p1 := hr.free 1
              have p2 := hr.free 2
              have p3 := hr.free 3
              have p4 := hr.free 4
              clear e1 e2
              go_wp2_with fail
              refine bodyPost_gen fun WE hWE => ?_
              have hoE : OB WE w.heap.size zz ⟨#[]⟩ 0 0 none 0 0 := by rw [hWE]; exact set5_OB hr
              have hbE : Below w.heap.size w WE := by rw [hWE]; exact ((((((HBB.out.trans (HB8.out.mono HBB.out.size))).setCell (Nat.le_refl _) _).setCell (Nat.le_refl _) _).setCell (Nat.le_refl _) _).setCell (Nat.le_refl _) _).setCell (Nat.le_refl _) _
              obtain ⟨y0, y1, y2, y3, y4, yl⟩ := hoE.cells
              clear hWE r0 r1 r2 r3 r4 p0 p1 p2 p3 p4
              rw [HJ.out]
              exact bodyPost_ret (v := .agg #[.int .i64 zz, .string ⟨#[]⟩, .int .i64 0, .int .i64 0, .slice none 0 0]) (by simp [results, Tryz.results79, go_sem, y0, y1, y2, y3, y4]) rfl ⟨_, rfl, ⟨none, 0, rfl, RdA.nil _ _ _ (by omega)⟩, hbE⟩
            · have d2 : (f.op == zz) = false := beq_false_of e2
              have HNE := hid e2
              by_cases e3 : f.op = uz
              · have d3 : (f.op == uz) = true := by rw [e3]; simp
                have HPZ := hid (show partZ op f = [] by unfold partZ; rw [if_neg e1, if_pos (by rw [e3]; exact HU.out)])
                clear e1 e2 e3
                go_wp2_with fail
                refine tail_close HTL.out ?_ ?_
                · rw [HSN.out, HXX.out, HPZ.out, List.append_nil]
                  exact ⟨A2, c2, sl, rfl, HRO8.out, HBL.out.trans (HB8.out.mono HBL.out.size), HOWN.out, HNE.out⟩
                · kernel_rfl
              · have d3 : (f.op == uz) = false := beq_false_of e3
                have HPZ := hid (show partZ op f = [f] by unfold partZ; rw [if_neg e1, if_neg (by rw [← HU.out]; exact e3)])
                have hone : ∀ u ∈ fcells f (A', c'), u.oneCell' = true := fun u hu => by
                  simp [fcells] at hu
                  rcases hu with rfl | rfl | rfl | rfl | rfl <;> rfl
                have hba2 : base ≤ W8.heap.size + 1 := by omega
                clear e1 e2 e3
                go_wp2_with (at_builtin; go_must (refine wpList_append_rd _ rfl (.tmp 22) (.tmp 24) 26 rfl base 28 i0 _ 5 64 Tryz.underlying26 hti hz0 hz1 hz2 rfl (by omega) (.slice A2 (flatZ op (l.take i)).length c2) (flatZ op (l.take i)).length _ rfl (HRO8.out.alloc _).own _ (some ⟨W8.heap.size, 0, none⟩) 1 1 _ rfl (Rd.fresh (D := AnyD) rfl trivial rfl (by omega)) hone (by omega) (maxLen_le (by omega)) (by simp; omega) ?_); intro A5 c5 w5 hown5 hg5 hat5)
                refine tail_close HTL.out ?_ ?_
                · rw [HSN.out, HXX.out, HPZ.out]
                  have hms : ∀ (ob : Obj) k, k < [f].length → RdA (W8.alloc ob) (fun x => Nw base (W8.alloc ob) x ∧ (Value.slice A2 (flatZ op (l.take i)).length c2).ownBlock ≠ some x) ([f].getD k default).args ([(A', c')].getD k (none, 0)).1 ([(A', c')].getD k (none, 0)).2 := fun ob k hk => by
                    cases Nat.lt_one_iff.1 hk
                    have hka : Keeps (fun k => Nw base w k ∧ k < w.heap.size) wr (W8.alloc ob) := Keeps.of_below ((HB8.out.mono (Nat.le_refl _)).alloc HB8.out.size ob) fun k hk => Nat.lt_of_lt_of_le hk.2 HBB.out.size
                    exact (HF.out.args.keep hka).mono fun x hx _ => ⟨⟨hx.1.1, hx.1.2.of_eq (((HBB.out.trans (HB8.out.mono HBB.out.size)).alloc (Nat.le_trans HBB.out.size HB8.out.size) ob).block x hx.2)⟩, fun e => by have := HOWN.out x e; have := HB.out.size; omega⟩
                  refine ⟨A5, c5, sl ++ [(A', c')], by rw [List.length_append]; rfl, (HRO8.out.alloc _).app hg5 (by rw [List.length_append]; rfl) hown5 hat5 rfl (hms _), Below.grown ((HBL.out.trans (HB8.out.mono HBL.out.size)).alloc (Nat.le_trans HBL.out.size HB8.out.size) _) hg5 (Nat.le_trans (Nat.le_trans HBL.out.size HB8.out.size) (by simp)) (fun k hk => HOWN.out k hk), fun k hk => ?_, HNE.out⟩
                  rw [List.length_append] at hk
                  rcases hat5 with h | h
                  · exact HOWN.out k (h.symm.trans hk)
                  · have := h.symm.trans hk
                    injection this with this
                    have := HBL.out.size
                    have := HB8.out.size
                    simp at *
                    omega
                · kernel_rfl
      · have hii : ¬ (i : Int) < l.length := by omega
        have hil : i = l.length := by omega
        have htk : l.take i = l := by rw [hil]; exact List.take_length
        rw [htk] at HRO HOWN ⊢
        have hfl : (flatZ op l).length ≤ 1000000 := Nat.le_trans (flatZ_len op l) hsz
        have hfs := hid (fun f hf => Nat.le_trans (flatZ_size op l f hf) hsz : ∀ f, f ∈ flatZ op l → f.size ≤ 1000000)
        have hbr : base ≤ wr.heap.size := Nat.le_trans hb HBB.out.size
        have HD := hid (distinct_any HRO.out rfl hfs.out hfl hbr)
        have hs9 := hid (fun f hf => hfs.out f ((setF_mem _ f).1 hf) : ∀ f, f ∈ setF (flatZ op l) → f.size ≤ 1000000)
        have h49 := hid (fun f hf => H4.out f ((setF_mem _ f).1 hf) : ∀ f, f ∈ setF (flatZ op l) → f.op = 4 → 0 < f.args.length)
        have hl9 : (setF (flatZ op l)).length ≤ 1000000 := Nat.le_trans (setF_len _) hfl
        have hso := hid (setF_asc (flatZ op l)).sort
        have hwW : w.heap.size ≤ W1.heap.size := HB.out.size
        obtain ⟨S, hS⟩ : ∃ S, S = setF (flatZ op l) := ⟨_, rfl⟩
        have HSS := hid hS
        rw [← hS] at hs9 h49 hl9 hso
        have HJ := hid (show joinZ op l = setZ op S by
          unfold joinZ
          rw [if_neg, hS]
          rw [List.any_eq_true]
          rintro ⟨f, hf, hz⟩
          obtain ⟨k, hk, e⟩ := List.getElem_of_mem hf
          refine HALL.out k (by omega) ?_
          have e2 : l.getD k default = f := by rw [← e]; simp [List.getD_eq_getElem?_getD, List.getElem?_eq_getElem hk]
          rw [e2, HZ.out]
          exact of_decide_eq_true hz)
        clear hS
        by_cases ho : oppB S = true
        · have HJ2 := hid (show setZ op S = opF zz [] by unfold setZ; rw [if_pos ho, HZ.out])
          go_wp2_with (first | (go_at_call 113; refine HD.out.mono ?_; rintro e w9 ⟨sl9, rfl, hrow9, hchg9⟩; have HB9 := hid (HBL.out.trans (hchg9.below (fun b hb h => by have := HOWN.out b h; omega) HBL.out.size)); rw [← HSS.out] at hrow9 ⊢; have HROW9 := hid hrow9; have HOP := hid (opposed_any (D := Nw base w9) _ A2 c2 w9 (hrow9.rd (by omega)) hs9.out hl9 (fun b hb => hb.2) hso.out h49.out)) | (go_at_call 115; refine HOP.out.mono ?_; rintro e w10 ⟨rfl, hbel10⟩; have HR10 := hid ((HR.out.below HB9.out).below hbel10.below); have HB10 := hid ((HB.out.trans (HB9.out.mono hwW)).trans (hbel10.below.mono (Nat.le_trans hwW HB9.out.size))); obtain ⟨r0, r1, r2, r3, r4, rl⟩ := HR10.out.cells; have p0 := HR10.out.free 0; have p1 := HR10.out.free 1; have p2 := HR10.out.free 2; have p3 := HR10.out.free 3; have p4 := HR10.out.free 4))
          refine bodyPost_gen fun WE hWE => ?_
          have hoE : OB WE w.heap.size zz ⟨#[]⟩ 0 0 none 0 0 := by rw [hWE]; exact set5_OB HR10.out
          have hbE : Below w.heap.size w WE := by rw [hWE]; exact (((((HB10.out).setCell (Nat.le_refl _) _).setCell (Nat.le_refl _) _).setCell (Nat.le_refl _) _).setCell (Nat.le_refl _) _).setCell (Nat.le_refl _) _
          obtain ⟨y0, y1, y2, y3, y4, yl⟩ := hoE.cells
          clear hWE r0 r1 r2 r3 r4 p0 p1 p2 p3 p4
          rw [HJ.out, HJ2.out]
          exact bodyPost_ret (v := .agg #[.int .i64 zz, .string ⟨#[]⟩, .int .i64 0, .int .i64 0, .slice none 0 0]) (by simp [results, Tryz.results79, go_sem, y0, y1, y2, y3, y4]) rfl ⟨_, rfl, ⟨none, 0, rfl, RdA.nil _ _ _ (by omega)⟩, hbE⟩
        · have hof : oppB S = false := by simpa using ho
          obtain ⟨nS, hnS⟩ : ∃ nS, nS = S.length := ⟨_, rfl⟩
          by_cases hs0 : S = []
          · subst hs0
            have HJ2 := hid (show setZ op [] = opF uz [] by unfold setZ; rw [if_neg ho, HU.out])
            go_wp2_with (first | (go_at_call 113; refine HD.out.mono ?_; rintro e w9 ⟨sl9, rfl, hrow9, hchg9⟩; have HB9 := hid (HBL.out.trans (hchg9.below (fun b hb h => by have := HOWN.out b h; omega) HBL.out.size)); rw [← HSS.out] at hrow9 ⊢; have HROW9 := hid hrow9; have HOP := hid (opposed_any (D := Nw base w9) _ A2 c2 w9 (hrow9.rd (by omega)) hs9.out hl9 (fun b hb => hb.2) hso.out h49.out)) | (go_at_call 115; refine HOP.out.mono ?_; rintro e w10 ⟨rfl, hbel10⟩; have HR10 := hid ((HR.out.below HB9.out).below hbel10.below); have HB10 := hid ((HB.out.trans (HB9.out.mono hwW)).trans (hbel10.below.mono (Nat.le_trans hwW HB9.out.size))); obtain ⟨r0, r1, r2, r3, r4, rl⟩ := HR10.out.cells; have p0 := HR10.out.free 0; have p1 := HR10.out.free 1; have p2 := HR10.out.free 2; have p3 := HR10.out.free 3; have p4 := HR10.out.free 4))
            refine bodyPost_gen fun WE hWE => ?_
            have hoE : OB WE w.heap.size uz ⟨#[]⟩ 0 0 none 0 0 := by rw [hWE]; exact set5_OB HR10.out
            have hbE : Below w.heap.size w WE := by rw [hWE]; exact (((((HB10.out).setCell (Nat.le_refl _) _).setCell (Nat.le_refl _) _).setCell (Nat.le_refl _) _).setCell (Nat.le_refl _) _).setCell (Nat.le_refl _) _
            obtain ⟨y0, y1, y2, y3, y4, yl⟩ := hoE.cells
            clear hWE r0 r1 r2 r3 r4 p0 p1 p2 p3 p4
            rw [HJ.out, HJ2.out]
            exact bodyPost_ret (v := .agg #[.int .i64 uz, .string ⟨#[]⟩, .int .i64 0, .int .i64 0, .slice none 0 0]) (by simp [results, Tryz.results79, go_sem, y0, y1, y2, y3, y4]) rfl ⟨_, rfl, ⟨none, 0, rfl, RdA.nil _ _ _ (by omega)⟩, hbE⟩
          · have hpos : 0 < (flatZ op l).length := by
              rcases hfz : flatZ op l with _ | ⟨z, zs⟩
              · exact absurd (by rw [HSS.out, hfz]; rfl) hs0
              · simp
            obtain ⟨g, rfl, hge⟩ := own_some HRO.out.own hpos
            have HNS := hid (fun f hf => HNZ.out f ((setF_mem _ f).1 (by rw [← HSS.out]; exact hf)) : ∀ f, f ∈ S → ∃ ins, allI nzQ ins f)
            by_cases hs1 : ∃ x, S = [x]
            · obtain ⟨x, rfl⟩ := hs1
              have HJ2 := hid (show setZ op [x] = x by unfold setZ; rw [if_neg ho])
              have HX0 := hid (fun g hg => by obtain ⟨ins, ha⟩ := HNS.out x (List.mem_singleton.2 rfl); exact ⟨_, (allI_iff.1 ha).2 g hg⟩ : ∀ g, g ∈ x.args → ∃ ins, allI nzQ ins g)
              clear hs0
              go_wp2_with (first | (go_at_call 113; refine HD.out.mono ?_; rintro e w9 ⟨sl9, rfl, hrow9, hchg9⟩; have HB9 := hid (HBL.out.trans (hchg9.below (fun b hb h => by have := HOWN.out b h; omega) HBL.out.size)); rw [← HSS.out] at hrow9 ⊢; have HROW9 := hid hrow9; have HOP := hid (opposed_any (D := Nw base w9) _ (some ⟨g, 0, none⟩) c2 w9 (hrow9.rd (by omega)) hs9.out hl9 (fun b hb => hb.2) hso.out h49.out)) | (go_at_call 115; refine HOP.out.mono ?_; rintro e w10 ⟨rfl, hbel10⟩; have HR10 := hid ((HR.out.below HB9.out).below hbel10.below); have HB10 := hid ((HB.out.trans (HB9.out.mono hwW)).trans (hbel10.below.mono (Nat.le_trans hwW HB9.out.size))); obtain ⟨r0, r1, r2, r3, r4, rl⟩ := HR10.out.cells; have p0 := HR10.out.free 0; have p1 := HR10.out.free 1; have p2 := HR10.out.free 2; have p3 := HR10.out.free 3; have p4 := HR10.out.free 4; have HROW10 := hid (HROW9.out.chg (Chg.of_new (V := fun _ => False) hbel10.below) fun _ h => h.elim); obtain ⟨A', c', hgl, u0, u1, u2, u3, u4, hxa⟩ := HROW10.out.first; have HXA := hid hxa; clear hxa))
              refine bodyPost_gen fun WE hWE => ?_
              have hoE : OB WE w.heap.size x.op x.name x.val x.bound A' x.args.length c' := by rw [hWE]; exact set5_OB HR10.out
              have hbE : Below w.heap.size w WE := by rw [hWE]; exact (((((HB10.out).setCell (Nat.le_refl _) _).setCell (Nat.le_refl _) _).setCell (Nat.le_refl _) _).setCell (Nat.le_refl _) _).setCell (Nat.le_refl _) _
              have haE : RdA WE (Nw base WE) x.args A' c' := (HXA.out.avoid HR10.out HX0.out).over (by rw [hWE]; exact set5_chg0 _ _ _ _ _ _ _)
              obtain ⟨y0, y1, y2, y3, y4, yl⟩ := hoE.cells
              clear hWE r0 r1 r2 r3 r4 p0 p1 p2 p3 p4
              rw [HJ.out, HJ2.out]
              exact bodyPost_ret (v := .agg #[.int .i64 x.op, .string x.name, .int .i64 x.val, .int .i64 x.bound, .slice A' x.args.length c']) (by simp [results, Tryz.results79, go_sem, y0, y1, y2, y3, y4]) rfl ⟨_, rfl, ⟨A', c', rfl, haE⟩, hbE⟩
            · have HJ2 := hid (show setZ op S = opF op S by
                unfold setZ
                rw [if_neg ho]
                rcases S with _ | ⟨x, _ | ⟨y, S⟩⟩
                · exact absurd rfl hs0
                · exact absurd ⟨x, rfl⟩ hs1
                · rfl)
              have hl2 : 2 ≤ S.length := by
                rcases S with _ | ⟨x, _ | ⟨y, S⟩⟩
                · exact absurd rfl hs0
                · exact absurd ⟨x, rfl⟩ hs1
                · simp
              have d0 : ((S.length : Int) == 0) = false := beq_false_of (by omega)
              have d1 : ((S.length : Int) == 1) = false := beq_false_of (by omega)
              clear hs0 hs1 hnS
              go_wp2_with (first | (go_at_call 113; refine HD.out.mono ?_; rintro e w9 ⟨sl9, rfl, hrow9, hchg9⟩; have HB9 := hid (HBL.out.trans (hchg9.below (fun b hb h => by have := HOWN.out b h; omega) HBL.out.size)); rw [← HSS.out] at hrow9 ⊢; have HROW9 := hid hrow9; have HOP := hid (opposed_any (D := Nw base w9) _ (some ⟨g, 0, none⟩) c2 w9 (hrow9.rd (by omega)) hs9.out hl9 (fun b hb => hb.2) hso.out h49.out)) | (go_at_call 115; refine HOP.out.mono ?_; rintro e w10 ⟨rfl, hbel10⟩; have HR10 := hid ((HR.out.below HB9.out).below hbel10.below); have HB10 := hid ((HB.out.trans (HB9.out.mono hwW)).trans (hbel10.below.mono (Nat.le_trans hwW HB9.out.size))); obtain ⟨r0, r1, r2, r3, r4, rl⟩ := HR10.out.cells; have p0 := HR10.out.free 0; have p1 := HR10.out.free 1; have p2 := HR10.out.free 2; have p3 := HR10.out.free 3; have p4 := HR10.out.free 4; have HROW10 := hid (HROW9.out.chg (Chg.of_new (V := fun _ => False) hbel10.below) fun _ h => h.elim); have hcap := HROW10.out.cap) | (go_at_call 117; refine (clip_any (some ⟨g, 0, none⟩) S.length c2 _ hcap.1 hcap.2).mono ?_; rintro e w11 ⟨rfl, hw11⟩; rw [hw11]; clear hw11))
              refine bodyPost_gen fun WE hWE => ?_
              have hoE : OB WE w.heap.size op ⟨#[]⟩ 0 0 (some ⟨g, 0, none⟩) S.length S.length := by rw [hWE]; exact set5_OB HR10.out
              have hbE : Below w.heap.size w WE := by rw [hWE]; exact (((((HB10.out).setCell (Nat.le_refl _) _).setCell (Nat.le_refl _) _).setCell (Nat.le_refl _) _).setCell (Nat.le_refl _) _).setCell (Nat.le_refl _) _
              have haE : RdA WE (Nw base WE) S (some ⟨g, 0, none⟩) S.length := (((HROW10.out.rd (by omega)).clip).avoid HR10.out HNS.out).over (by rw [hWE]; exact set5_chg0 _ _ _ _ _ _ _)
              obtain ⟨y0, y1, y2, y3, y4, yl⟩ := hoE.cells
              clear hWE r0 r1 r2 r3 r4 p0 p1 p2 p3 p4
              rw [HJ.out, HJ2.out]
              exact bodyPost_ret (v := .agg #[.int .i64 op, .string ⟨#[]⟩, .int .i64 0, .int .i64 0, .slice (some ⟨g, 0, none⟩) S.length S.length]) (by simp [results, Tryz.results79, go_sem, y0, y1, y2, y3, y4]) rfl ⟨_, rfl, ⟨_, _, rfl, haE⟩, hbE⟩
end Go.Proofs.YtdakdpfofgkjoaaGreatDoor
