/-
  Canonical forms, plain: sizes, depths, shape.
  Walk of canons and canon.
-/
import Derived.Test.YtdakdpfofgkjoaaGreatDoorZ25
set_option linter.unusedVariables false
set_option linter.unusedSimpArgs false
namespace Go.Proofs.YtdakdpfofgkjoaaGreatDoor

def isC (f : Fm) : Bool := decide (f.op = 1) || decide (f.op = 2)
def canO (o : Int) (n : ByteArray) (v : Int) (xs : List Fm) : Fm :=
  if o = 5 ∨ o = 6 then joinZ o xs
  else if o = 8 ∧ isC (xs.getD 0 default) = true then xs.getD 0 default
  else if o = 9 ∧ (isC (xs.getD 1 default) = true ∨ (xs.getD 0 default).op = 2) then xs.getD 1 default
  else if o = 10 ∧ (isC (xs.getD 1 default) = true ∨ (xs.getD 0 default).op = 1) then xs.getD 1 default
  else .mk o n v 0 xs
mutual
def canonZ : Fm → Fm
  | .mk o n v _ l => canO o n v (canonsZ l)
def canonsZ : List Fm → List Fm
  | [] => []
  | f :: l => canonZ f :: canonsZ l
end
theorem canonsZ_map : ∀ l : List Fm, canonsZ l = l.map canonZ
  | [] => by simp only [canonsZ, List.map_nil]
  | f :: l => by simp only [canonsZ, List.map_cons, canonsZ_map l]
theorem canonZ_eq (f : Fm) : canonZ f = canO f.op f.name f.val (f.args.map canonZ) := by
  cases f
  simp only [canonZ, canonsZ_map, Fm.op, Fm.name, Fm.val, Fm.args]
theorem insF_sizes (x : Fm) : ∀ l : List Fm, sizes (insF x l) ≤ x.size + sizes l
  | [] => by simp [insF, sizes]
  | y :: l => by
    have := insF_sizes x l
    unfold insF
    split
    · simp [sizes]
    · split
      · simp [sizes]
      · simp only [sizes]; omega
theorem setF_sizes : ∀ gs : List Fm, sizes (setF gs) ≤ sizes gs
  | [] => Nat.le_refl _
  | x :: gs => by
    have := setF_sizes gs
    have h := insF_sizes x (setF gs)
    show sizes (insF x (setF gs)) ≤ _
    simp only [sizes]
    omega
theorem partZ_sizes (op : Int) (x : Fm) : sizes (partZ op x) ≤ x.size := by
  have h2 := Fm.size_eq x
  unfold partZ
  split
  · omega
  · split
    · simp [sizes]
    · simp [sizes]
theorem flatZ_sizes (op : Int) : ∀ l : List Fm, sizes (flatZ op l) ≤ sizes l
  | [] => Nat.le_refl _
  | x :: l => by
    have := flatZ_sizes op l
    have h := partZ_sizes op x
    unfold flatZ at this ⊢
    rw [List.flatMap_cons, sizes_append]
    simp only [sizes]
    omega
theorem leaf_size (o : Int) : (opF o []).size = 1 := rfl
theorem leaf_depth (o : Int) : (opF o []).depth = 1 := rfl
theorem setZ_size (op : Int) (s : List Fm) : (setZ op s).size ≤ 1 + sizes s := by
  unfold setZ
  split
  · rw [leaf_size]; omega
  · split
    · rw [leaf_size]; omega
    · simp only [sizes]; omega
    · exact Nat.le_of_eq (Fm.size_eq _)
theorem joinZ_size (op : Int) (l : List Fm) : (joinZ op l).size ≤ 1 + sizes l := by
  unfold joinZ
  split
  · rw [leaf_size]; omega
  · have h1 := setZ_size op (setF (flatZ op l))
    have h2 := setF_sizes (flatZ op l)
    have h3 := flatZ_sizes op l
    omega
theorem getD_size (xs : List Fm) (i : Nat) : (xs.getD i default).size ≤ 1 + sizes xs := by
  by_cases h : i < xs.length
  · have := sizes_mem (getD_memF h); omega
  · have : xs.getD i default = default := by simp [List.getD, List.getElem?_eq_none (Nat.le_of_not_lt h)]
    rw [this]
    show (1 + 0 : Nat) ≤ _
    omega
theorem getD_depth (xs : List Fm) (i : Nat) : (xs.getD i default).depth ≤ 1 + depths xs := by
  by_cases h : i < xs.length
  · have := depths_mem (getD_memF h); omega
  · have : xs.getD i default = default := by simp [List.getD, List.getElem?_eq_none (Nat.le_of_not_lt h)]
    rw [this]
    show (1 + 0 : Nat) ≤ _
    omega
theorem canO_size (o : Int) (n : ByteArray) (v : Int) (xs : List Fm) : (canO o n v xs).size ≤ 1 + sizes xs := by
  unfold canO
  split
  · exact joinZ_size _ _
  · split
    · exact getD_size _ _
    · split
      · exact getD_size _ _
      · split
        · exact getD_size _ _
        · exact Nat.le_of_eq (Fm.size_eq _)
theorem sizes_map_le {g : Fm → Fm} : ∀ {l : List Fm}, (∀ x, x ∈ l → (g x).size ≤ x.size) → sizes (l.map g) ≤ sizes l
  | [], _ => Nat.le_refl _
  | x :: l, h => by
    have h1 := h x (by simp)
    have h2 := sizes_map_le (g := g) (l := l) fun y hy => h y (by simp [hy])
    simp only [List.map_cons, sizes]
    omega
theorem canonZ_size (f : Fm) : (canonZ f).size ≤ f.size := by
  induction f using Fm.ind with
  | h f ih =>
    rw [canonZ_eq, Fm.size_eq f]
    have h1 := canO_size f.op f.name f.val (f.args.map canonZ)
    have h2 := sizes_map_le ih
    omega
theorem depths_le {l : List Fm} {d : Nat} (h : ∀ x, x ∈ l → x.depth ≤ d) : depths l ≤ d := by
  induction l with
  | nil => exact Nat.zero_le _
  | cons x l ih =>
    have h1 := h x (by simp)
    have h2 := ih fun y hy => h y (by simp [hy])
    simp only [depths]
    omega
theorem flatZ_mem {op : Int} {l : List Fm} {x : Fm} (h : x ∈ flatZ op l) : ∃ g, g ∈ l ∧ ((g.op = op ∧ x ∈ g.args) ∨ x = g) := by
  unfold flatZ at h
  rw [List.mem_flatMap] at h
  obtain ⟨g, hg, hx⟩ := h
  refine ⟨g, hg, ?_⟩
  unfold partZ at hx
  split at hx
  · exact .inl ⟨by assumption, hx⟩
  · split at hx
    · cases hx
    · exact .inr (List.mem_singleton.1 hx)
theorem setF_depths (op : Int) (l : List Fm) : depths (setF (flatZ op l)) ≤ depths l := depths_le fun x hx => by
  obtain ⟨g, hg, h⟩ := flatZ_mem ((setF_mem _ _).1 hx)
  have h1 := depths_mem hg
  rcases h with ⟨_, h⟩ | rfl
  · have := depths_mem h
    have := Fm.depth_eq g
    omega
  · exact h1
theorem setZ_depth (op : Int) (s : List Fm) : (setZ op s).depth ≤ 1 + depths s := by
  unfold setZ
  split
  · rw [leaf_depth]; omega
  · split
    · rw [leaf_depth]; omega
    · simp only [depths]; omega
    · exact Nat.le_of_eq (Fm.depth_eq _)
theorem joinZ_depth (op : Int) (l : List Fm) : (joinZ op l).depth ≤ 1 + depths l := by
  unfold joinZ
  split
  · rw [leaf_depth]; omega
  · have h1 := setZ_depth op (setF (flatZ op l))
    have h2 := setF_depths op l
    omega
theorem canO_depth (o : Int) (n : ByteArray) (v : Int) (xs : List Fm) : (canO o n v xs).depth ≤ 1 + depths xs := by
  unfold canO
  split
  · exact joinZ_depth _ _
  · split
    · exact getD_depth _ _
    · split
      · exact getD_depth _ _
      · split
        · exact getD_depth _ _
        · exact Nat.le_of_eq (Fm.depth_eq _)
theorem canonZ_depth (f : Fm) : (canonZ f).depth ≤ f.depth := by
  induction f using Fm.ind with
  | h f ih =>
    rw [canonZ_eq, Fm.depth_eq f]
    have h1 := canO_depth f.op f.name f.val (f.args.map canonZ)
    have h2 : depths (f.args.map canonZ) ≤ depths f.args := depths_le fun x hx => by
      obtain ⟨g, hg, rfl⟩ := List.mem_map.1 hx
      have := ih g hg
      have := depths_mem hg
      omega
    omega
theorem allI_imp {q r : Fm × Bool → Bool} (hq : ∀ x, q x = true → r x = true) {ins : Bool} {f : Fm} (h : allI q ins f) : allI r ins f := by
  unfold allI at h ⊢
  rw [List.all_eq_true] at h ⊢
  exact fun x hx => hq x (h x hx)
theorem bareQ_parts {f : Fm} {ins : Bool} (h : bareQ (f, ins) = true) : (formZ f.op).loose = true ∧ shapedB f = true ∧ ((formZ f.op).future = true → ins = false) ∧ (f.op = 4 → (f.args.getD 0 default).op = 3) := by
  unfold bareQ notQ at h
  simp only [Bool.and_eq_true] at h
  obtain ⟨⟨⟨h1, h2⟩, h3⟩, h4⟩ := h
  refine ⟨h1, h2, fun hf => ?_, fun ho => ?_⟩
  · rw [hf] at h3; simpa using h3
  · rw [decide_eq_true ho] at h4; simpa using h4
theorem bareQ_nz (x : Fm × Bool) (h : bareQ x = true) : nzQ x = true := by
  obtain ⟨f, ins⟩ := x
  have := (shp_out (bareQ_parts h).2.1).1
  unfold nzQ
  refine decide_eq_true fun e => ?_
  have e : f.op = 0 := e
  rw [e] at this
  cases this
theorem bare_not {f : Fm} {ins : Bool} (h : allI bareQ ins f) (h4 : f.op = 4) : 0 < f.args.length := shaped_not (bareQ_parts (allI_iff.1 h).1).2.1 h4
theorem flatZ_bare {op : Int} {l : List Fm} {ins : Bool} (hop : op = 5 ∨ op = 6) (h : ∀ g, g ∈ l → allI bareQ ins g) : ∀ x, x ∈ flatZ op l → allI bareQ ins x := by
  intro x hx
  obtain ⟨g, hg, hh⟩ := flatZ_mem hx
  rcases hh with ⟨he, hh⟩ | rfl
  · have := (allI_iff.1 (h g hg)).2 x hh
    have hp : (formZ g.op).past = false := by rw [he]; rcases hop with rfl | rfl <;> rfl
    rw [hp, Bool.or_false] at this
    exact this
  · exact h _ hg
theorem setZ_bare {op : Int} {s : List Fm} {ins : Bool} (hop : op = 5 ∨ op = 6) (h : ∀ g, g ∈ s → allI bareQ ins g) (hz : s.length ≤ manyN) : allI bareQ ins (setZ op s) := by
  have hl1 : allI bareQ ins (opF (zeroZ op) []) := allI_leaf (by rcases hop with rfl | rfl <;> decide)
  have hl2 : allI bareQ ins (opF (unitZ op) []) := allI_leaf (by rcases hop with rfl | rfl <;> decide)
  unfold setZ
  split
  · exact hl1
  · split
    · exact hl2
    · exact h _ (by simp)
    · rename_i s' h0 h1
      have hlen : 2 ≤ s.length := by
        rcases s with _ | ⟨x, _ | ⟨y, s⟩⟩
        · exact absurd rfl h0
        · exact absurd rfl (h1 x)
        · simp
      rw [allI_iff]
      refine ⟨?_, fun g hg => ?_⟩
      · rcases hop with rfl | rfl
        · exact bare_mk rfl (shp_opF rfl hlen hz (by decide) (by decide) rfl) (fun h => by cases h) (fun e => by simp [opF, Fm.op] at e)
        · exact bare_mk rfl (shp_opF rfl hlen hz (by decide) (by decide) rfl) (fun h => by cases h) (fun e => by simp [opF, Fm.op] at e)
      · have hp : (formZ (opF op s).op).past = false := by rcases hop with rfl | rfl <;> rfl
        rw [hp, Bool.or_false]
        exact h g hg
theorem joinZ_bare {op : Int} {l : List Fm} {ins : Bool} (hop : op = 5 ∨ op = 6) (h : ∀ g, g ∈ l → allI bareQ ins g) (hz : sizes l ≤ manyN) : allI bareQ ins (joinZ op l) := by
  unfold joinZ
  split
  · exact allI_leaf (by rcases hop with rfl | rfl <;> decide)
  · refine setZ_bare hop (fun g hg => flatZ_bare hop h g ((setF_mem _ _).1 hg)) ?_
    have h1 := setF_len (flatZ op l)
    have h2 := flatZ_len op l
    omega
/-- The canonical form of a formula whose nodes are those of kernels. -/
theorem canonZ_bare (f : Fm) : ∀ ins, allI bareQ ins f → f.size ≤ manyN → allI bareQ ins (canonZ f) := by
  induction f using Fm.ind with
  | h f ih =>
    intro ins h hz
    rw [canonZ_eq]
    obtain ⟨h1, h2⟩ := allI_iff.1 h
    obtain ⟨p1, p2, p3, p4⟩ := bareQ_parts h1
    obtain ⟨s1, s2, s3, s4, s5, s6, s7, s8⟩ := shp_out p2
    have hs := Fm.size_eq f
    have hcs : ∀ g, g ∈ f.args.map canonZ → allI bareQ (ins || (formZ f.op).past) g := fun g hg => by
      obtain ⟨x, hx, rfl⟩ := List.mem_map.1 hg
      exact ih x hx _ (h2 x hx) (by have := sizes_mem hx; omega)
    have hat : ∀ i, i < f.args.length → allI bareQ (ins || (formZ f.op).past) ((f.args.map canonZ).getD i default) := fun i hi => hcs _ (getD_memF (by simpa using hi))
    have hzz : sizes (f.args.map canonZ) ≤ sizes f.args := sizes_map_le fun x _ => canonZ_size x
    unfold canO
    split
    · rename_i hop
      have hp : (formZ f.op).past = false := by rcases hop with e | e <;> rw [e] <;> rfl
      rw [hp, Bool.or_false] at hcs
      exact joinZ_bare hop hcs (by omega)
    · split
      · rename_i hop
        have hp : (formZ f.op).past = false := by rw [hop.1]; rfl
        rw [hp, Bool.or_false] at hat
        rw [hop.1] at s2
        exact hat 0 s2
      · split
        · rename_i hop
          have hp : (formZ f.op).past = false := by rw [hop.1]; rfl
          rw [hp, Bool.or_false] at hat
          rw [hop.1] at s2
          exact hat 1 s2
        · split
          · rename_i hop
            have hp : (formZ f.op).past = false := by rw [hop.1]; rfl
            rw [hp, Bool.or_false] at hat
            rw [hop.1] at s2
            exact hat 1 s2
          · rw [allI_iff]
            refine ⟨bare_mk p1 (shp_of s1 (by show (formZ f.op).least ≤ (f.args.map canonZ).length; rw [List.length_map]; exact s2) (by show (f.args.map canonZ).length ≤ (formZ f.op).most; rw [List.length_map]; exact s3) s4 s5 (Int.le_refl _) (by show (0 : Int) ≤ (formZ f.op).bound; omega) s8) p3 fun h4 => ?_, fun g hg => hcs g hg⟩
            have h4 : f.op = 4 := h4
            have hl := shaped_not p2 h4
            show ((f.args.map canonZ).getD 0 default).op = 3
            have e : (f.args.map canonZ).getD 0 default = canonZ (f.args.getD 0 default) := by simp [List.getD, hl]
            have h3 := p4 h4
            rw [e, canonZ_eq, h3]
            rfl
theorem many_ge {n : Nat} (h : n ≤ 1000000) : n ≤ manyN := by unfold manyN; omega
end Go.Proofs.YtdakdpfofgkjoaaGreatDoor
set_option linter.unusedVariables false
set_option linter.unusedSimpArgs false
namespace Go.Proofs.YtdakdpfofgkjoaaGreatDoor
open Go.RowKit Go.Shelf
attribute [local go_sem] cell_alloc_old buildF_o run_store_func

def frow (n : Nat) : Obj := .cells (madeCells #[.int .i64 0, .string ⟨#[]⟩, .int .i64 0, .int .i64 0, .slice none 0 0] (n * 5)) 28
theorem run_make_F (n : Nat) (hn : n ≤ 1000000) (w : World) : (Instr.makeSlice 26 (.int .i64 (n : Int)) (.int .i64 (n : Int))).run Tryz.prog w = .ok (.slice (some ⟨w.heap.size, 0, none⟩) n n) (w.alloc (frow n)) := by
  obtain ⟨i0, hti, hz0, hz1, hz2⟩ := info_parts formula_info
  have hr := run_make (P := Tryz.prog) w 26 28 i0 _ Tryz.underlying26 hti hz0 .i64 .i64 (n : Int) (n : Int) (by omega) (by omega) (by rw [hz2]; omega) (by omega)
  rw [hz1, Int.toNat_natCast] at hr
  exact hr
theorem cellsF_rep (n : Nat) : (madeCells #[.int .i64 0, .string ⟨#[]⟩, .int .i64 0, .int .i64 0, .slice none 0 0] (n * 5)).toList = cellsF (List.replicate n zeroF) (List.replicate n (none, 0)) := by
  apply List.ext_getElem?
  intro j
  by_cases hj : j < n * 5
  · have hk : j / 5 < n := by omega
    have hm : j % 5 < 5 := Nat.mod_lt _ (by omega)
    have e : j = j / 5 * 5 + j % 5 := by omega
    have h1 := cellsF_at (L := List.replicate n zeroF) (sl := List.replicate n ((none : Option Addr), 0)) (by simp) (k := j / 5) (j := j % 5) (by simpa using hk) hm
    rw [← e] at h1
    rw [h1]
    have e1 : (List.replicate n zeroF).getD (j / 5) default = zeroF := by simp [List.getD, hk]
    have e2 : (List.replicate n ((none : Option Addr), 0)).getD (j / 5) (none, 0) = (none, 0) := by simp [List.getD, hk]
    rw [e1, e2]
    have e3 : j % 5 = 0 ∨ j % 5 = 1 ∨ j % 5 = 2 ∨ j % 5 = 3 ∨ j % 5 = 4 := by omega
    rcases e3 with h | h | h | h | h <;> simp [madeCells, hj, h, fcells, zeroF, Fm.op, Fm.name, Fm.val, Fm.bound, Fm.args]
  · rw [List.getElem?_eq_none (by simpa [madeCells] using hj), List.getElem?_eq_none (by rw [cellsF_len (by simp)]; simpa using hj)]
theorem frow_row (w : World) (base n : Nat) (hb : base ≤ w.heap.size) (hn : n ≤ 1000000) : FRow (w.alloc (frow n)) base (some ⟨w.heap.size, 0, none⟩) n (List.replicate n zeroF) (List.replicate n (none, 0)) := by
  refine ⟨?_, by simp, fun i hi => ?_⟩
  · have := World.ownsRow_lit (base := base) (e := 28) (size := 5) w (madeCells #[.int .i64 0, .string ⟨#[]⟩, .int .i64 0, .int .i64 0, .slice none 0 0] (n * 5)) n hb (maxLen_le (by omega)) (size_madeCells _ _)
    rw [cellsF_rep] at this
    rw [List.length_replicate]
    exact this
  · have hi' : i < n := by simpa using hi
    have e1 : (List.replicate n zeroF).getD i default = zeroF := by simp [List.getD, hi']
    have e2 : (List.replicate n ((none : Option Addr), 0)).getD i (none, 0) = (none, 0) := by simp [List.getD, hi']
    rw [e1, e2]
    exact RdA.nil _ _ _ (Nat.zero_le _)
/-- What canon is to say of a formula. -/
def CanonC (f : Fm) : Prop := ∀ (D : Dom) (b o : Nat) (A : Option Addr) (c : Nat) (w : World), HasF w D b o f A c →
  Calls Tryz.prog 118 #[.pointer (some ⟨b, o, none⟩)] w fun e w' => ∃ v, e = .returned v ∧ NewF (canonZ f) w v w'
set_option maxRecDepth 100000 in
set_option maxHeartbeats 4000000 in
theorem canons_any {D : Dom} {w : World} {A : Option Addr} {n c : Nat} {l : List Fm} (h : RdA w D l A c) (hn : n = l.length) (hl : l.length ≤ 1000000) (ih : ∀ g, g ∈ l → CanonC g) :
    Calls Tryz.prog 80 #[.slice A n c] w fun e w' => ∃ A', e = .returned (.slice A' n n) ∧ RdA w' (Nw w.heap.size w') (l.map canonZ) A' n ∧ Below w.heap.size w w' := by
  subst hn
  have hmk := run_make_F l.length hl
  have HL := hid h.old
  have hcp := h.len
  clear h
  go_enter Tryz.func80, Tryz.ntmps80
  go_upto_region 2 with (fail)
  refine wp_gen fun W hW => ?_
  have HB := hid (show Below w.heap.size w W by rw [hW]; go_grown)
  have HR := hid (show FRow W w.heap.size (some ⟨w.heap.size, 0, none⟩) l.length (List.replicate l.length zeroF) (List.replicate l.length (none, 0)) by rw [hW]; exact frow_row _ _ _ (Nat.le_refl _) hl)
  clear hW hmk
  go_wp2_with fail
  go_loopw [10] (fun r wr => ∃ (i : Nat) (R : List Fm) (sl : List (Option Addr × Nat)), i ≤ l.length ∧ r = .int .i64 (i : Int) ∧ FRow wr w.heap.size (some ⟨w.heap.size, 0, none⟩) l.length R sl ∧ R.length = l.length ∧ R.take i = (l.take i).map canonZ ∧ Below w.heap.size w wr) (fun r _ => l.length - (intOf r).toNat)
  case atStart => exact ⟨0, _, _, Nat.zero_le _, rfl, HR.out, by simp, rfl, HB.out⟩
  case round =>
    obtain ⟨i, R, sl, hi, rfl, hr, hrl, hpre, hbl⟩ := hrel
    have HRR := hid hr
    have HRL := hid hrl
    have HPRE := hid hpre
    have HBL := hid hbl
    clear hr hrl hpre hbl
    by_cases hlt : i < l.length
    · have hii : (i : Int) < l.length := by omega
      have HLr := hid (HL.out.keep (Keeps.of_below HBL.out fun _ h => h))
      obtain ⟨b1, o1, A', c', f, rfl, HX, hf⟩ := HLr.out.get hlt
      have HXX := hid HX.out
      have HCALL := hid (ih f (by have := HXX.out; rw [← this]; exact getD_memF hlt) _ _ _ _ _ _ hf)
      obtain ⟨_, _, f', _, _, _, _, _, _, _, _, _, _, _, _, _, hgl, _⟩ := HRR.out.get (i := i) (by have := HRL.out; omega)
      clear HX hf
      go_wp2_with (go_at_call 118; refine HCALL.out.mono ?_; rintro e w2 ⟨v, rfl, hbel, A2, c2, rfl, ha2⟩; have HR2 := hid (HRR.out.chg (Chg.of_new (V := fun _ => False) hbel) fun _ h => h.elim); have HA2 := hid ha2; have HB2 := hid (HBL.out.trans (hbel.mono HBL.out.size)); clear ha2; obtain ⟨_, _, f2, _, _, u0, u1, u2, u3, u4, v0, v1, v2, v3, v4, gl2, _⟩ := HR2.out.get (i := i) (by have := HRL.out; omega))
      go_roundw
      case rel =>
        have hil : i < R.length := by have := HRL.out; omega
        have hset := HR2.out.set hil (canonZ f) A2 c2 (HA2.out.mono fun k hk _ => ⟨⟨by have := hk.1; omega, hk.2⟩, by have := hk.1; omega⟩)
        refine ⟨i + 1, R.set i (canonZ f), sl.set i (A2, c2), by omega, by go_num, hset, by rw [List.length_set]; exact HRL.out, ?_, ?_⟩
        · rw [take_succ_getD _ default (by rw [List.length_set]; exact hil), getD_set_eq hil, List.take_set_of_le (Nat.le_refl _), HPRE.out, take_succ_getD l default hlt, List.map_append, HXX.out]
          rfl
        · exact ((((HB2.out.setCell (Nat.le_refl _) _).setCell (Nat.le_refl _) _).setCell (Nat.le_refl _) _).setCell (Nat.le_refl _) _).setCell (Nat.le_refl _) _
      case measure => simp [intOf]; omega
    · have hii : ¬ (i : Int) < l.length := by omega
      have hil : i = l.length := by omega
      have HE := hid (show R = l.map canonZ by
        have h1 := HPRE.out
        rw [hil, List.take_length, ← HRL.out, List.take_length] at h1
        exact h1)
      go_wp2_with fail
      go_ret
      refine ⟨_, rfl, ?_, HBL.out⟩
      rw [← HE.out]
      exact HRR.out.rd (by have := HRL.out; omega)
set_option maxHeartbeats 1000000 in
theorem const_any {D : Dom} (xs : List Fm) (A : Option Addr) (n c kb i : Nat) (k : Int) (w : World) (h : RdA w D xs A c) (hn : n = xs.length) (hi : i < xs.length) (hk : k = (i : Int)) (hc : w.cell? ⟨kb, 0, none⟩ = some (.slice A n c)) (r : Bool) (hr : isC (xs.getD i default) = r) :
    Calls Tryz.prog 132 #[.int .i64 k, .pointer (some ⟨kb, 0, none⟩)] w fun e w' => e = .returned (.bool r) ∧ w' = w := by
  rw [← hr]
  clear hr
  subst hn hk
  have hlen := h.len
  obtain ⟨b1, o1, A', c', f, rfl, HX, hf⟩ := h.get hi
  have HXX := hid HX.out
  obtain ⟨q1, q2, p0, p1, p2, p3, p4, q3⟩ := hf
  have hii : (i : Int) < xs.length := by omega
  clear HX q3 h
  by_cases e1 : f.op = 1
  · have d1 : (f.op == 1) = true := by rw [e1]; rfl
    have HC := hid (show isC (xs.getD i default) = true by rw [HXX.out]; unfold isC; rw [decide_eq_true e1]; rfl)
    clear e1
    go_enter Tryz.func132, Tryz.ntmps132
    go_wp2_with fail
    go_ret
    exact ⟨ret_bool HC.out.symm, rfl⟩
  · have d1 : (f.op == 1) = false := beq_false_of e1
    by_cases e2 : f.op = 2
    · have d2 : (f.op == 2) = true := by rw [e2]; rfl
      have HC := hid (show isC (xs.getD i default) = true by rw [HXX.out]; unfold isC; rw [decide_eq_true e2, Bool.or_true])
      clear e1 e2
      go_enter Tryz.func132, Tryz.ntmps132
      go_wp2_with fail
      go_ret
      exact ⟨ret_bool HC.out.symm, rfl⟩
    · have d2 : (f.op == 2) = false := beq_false_of e2
      have HC := hid (show isC (xs.getD i default) = false by rw [HXX.out]; unfold isC; rw [decide_eq_false e1, decide_eq_false e2]; rfl)
      clear e1 e2
      go_enter Tryz.func132, Tryz.ntmps132
      go_wp2_with fail
      go_ret
      exact ⟨ret_bool HC.out.symm, rfl⟩
theorem buildF_nva (o v : Int) (s : ByteArray) (A : Option Addr) (n c : Nat) (w : World) : (Instr.build 28 #[(0, .int .i64 o), (1, .string s), (2, .int .i64 v), (4, .slice A n c)]).run Tryz.prog w = .ok (.agg #[.int .i64 o, .string s, .int .i64 v, .int .i64 0, .slice A n c]) w := run_build w 28 _ _ (by kernel_rfl)
end Go.Proofs.YtdakdpfofgkjoaaGreatDoor
