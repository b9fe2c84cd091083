/-
  Compare is a total order on formulas, and 0 for equal ones only.
  Parts of formulas, plain: what holds of all nodes of a formula holds of those of its arguments; names, sorted.
  Positive and negative forms, plain: a double negation, kernels, names.
  Rows of formulas that grow; the builder's counter.
-/
import Derived.Test.YtdakdpfofgkjoaaGreatDoorZ14
import Derived.Test.YtdakdpfofgkjoaaGreatDoorZ10
set_option linter.unusedVariables false
set_option linter.unusedSimpArgs false
namespace Go.Proofs.YtdakdpfofgkjoaaGreatDoor

/-- Three comparisons that fit together. -/
structure Tri (x y z : Int) : Prop where
  le : x ≤ 0 → y ≤ 0 → z ≤ 0
  lt : x ≤ 0 → y ≤ 0 → x < 0 ∨ y < 0 → z < 0
  left : x = 0 → z = y
  right : y = 0 → z = x
theorem Tri.nz {x y z x' y' z' : Int} (h : Tri x y z) (k : x = 0 → y = 0 → Tri x' y' z') : Tri (nz x x') (nz y y') (nz z z') := by
  obtain ⟨h1, h2, h3, h4⟩ := h
  unfold Proofs.YtdakdpfofgkjoaaGreatDoor.nz
  by_cases hx : x = 0
  · have hz := h3 hx
    by_cases hy : y = 0
    · obtain ⟨k1, k2, k3, k4⟩ := k hx hy
      have hz0 : z = 0 := by omega
      rw [if_pos hx, if_pos hy, if_pos hz0]
      exact ⟨k1, k2, k3, k4⟩
    · have hz0 : ¬ z = 0 := by omega
      rw [if_pos hx, if_neg hy, if_neg hz0]
      exact ⟨by omega, by omega, by omega, by omega⟩
  · by_cases hy : y = 0
    · have hz := h4 hy
      have hz0 : ¬ z = 0 := by omega
      rw [if_neg hx, if_pos hy, if_neg hz0]
      exact ⟨by omega, by omega, by omega, by omega⟩
    · rw [if_neg hx, if_neg hy]
      by_cases hz0 : z = 0
      · rw [if_pos hz0]
        exact ⟨by omega, by omega, by omega, by omega⟩
      · rw [if_neg hz0]
        exact ⟨by omega, by omega, by omega, by omega⟩
theorem cmpZ_tri (a b c : Int) : Tri (cmpZ a b) (cmpZ b c) (cmpZ a c) := by
  unfold cmpZ
  constructor <;> (split <;> split <;> split) <;> omega
theorem cmpZ_anti (a b : Int) : cmpZ b a = -cmpZ a b := by
  unfold cmpZ
  split <;> split <;> omega
theorem cmpZ_range (a b : Int) : -1 ≤ cmpZ a b ∧ cmpZ a b ≤ 1 := by
  unfold cmpZ
  by_cases h : a < b
  · rw [if_pos h]; omega
  · rw [if_neg h]
    by_cases h2 : b < a
    · rw [if_pos h2]; omega
    · rw [if_neg h2]; omega
theorem nz_anti {a b a' b' : Int} (h : b = -a) (h' : a = 0 → b' = -a') : nz b b' = -nz a a' := by
  unfold nz
  by_cases e : a = 0
  · rw [if_pos e, if_pos (by omega), h' e]
  · rw [if_neg e, if_neg (by omega), h]
theorem nz_range {a b : Int} (h : -1 ≤ a ∧ a ≤ 1) (k : -1 ≤ b ∧ b ≤ 1) : -1 ≤ nz a b ∧ nz a b ≤ 1 := by
  unfold nz
  split <;> assumption
theorem nz_right {a b : Int} (h : nz a b = 0) : b = 0 := by
  have := nz_left h
  rw [this, zero_nz] at h
  exact h
/-- Bytes. -/
def cmpU (a b : UInt8) : Int := cmpZ a.toNat b.toNat
theorem compareBytes_cons (a b : UInt8) (x y : List UInt8) : Go.Lib.compareBytes (a :: x) (b :: y) = nz (cmpU a b) (Go.Lib.compareBytes x y) := by
  rw [Go.Lib.compareBytes]
  unfold cmpU cmpZ nz
  by_cases h1 : a < b
  · have h2 : (a.toNat : Int) < b.toNat := by have := UInt8.lt_iff_toNat_lt.1 h1; omega
    simp [h1, h2]
  · have h2 : ¬ (a.toNat : Int) < b.toNat := fun h => h1 (UInt8.lt_iff_toNat_lt.2 (by omega))
    by_cases h3 : b < a
    · have h4 : (b.toNat : Int) < a.toNat := by have := UInt8.lt_iff_toNat_lt.1 h3; omega
      simp [h1, h2, h3, h4]
    · have h4 : ¬ (b.toNat : Int) < a.toNat := fun h => h3 (UInt8.lt_iff_toNat_lt.2 (by omega))
      simp [h1, h2, h3, h4]
theorem bytes_tri : ∀ a b c : List UInt8, Tri (Go.Lib.compareBytes a b) (Go.Lib.compareBytes b c) (Go.Lib.compareBytes a c)
  | [], [], [] => ⟨by simp [Go.Lib.compareBytes], by simp [Go.Lib.compareBytes], by simp [Go.Lib.compareBytes], by simp [Go.Lib.compareBytes]⟩
  | [], [], _ :: _ => ⟨by simp [Go.Lib.compareBytes], by simp [Go.Lib.compareBytes], by simp [Go.Lib.compareBytes], by simp [Go.Lib.compareBytes]⟩
  | [], _ :: _, [] => ⟨by simp [Go.Lib.compareBytes], by simp [Go.Lib.compareBytes], by simp [Go.Lib.compareBytes], by simp [Go.Lib.compareBytes]⟩
  | _ :: _, [], [] => ⟨by simp [Go.Lib.compareBytes], by simp [Go.Lib.compareBytes], by simp [Go.Lib.compareBytes], by simp [Go.Lib.compareBytes]⟩
  | [], b :: y, c :: z => by
    have h1 : Go.Lib.compareBytes [] (b :: y) = -1 := by simp [Go.Lib.compareBytes]
    have h2 : Go.Lib.compareBytes [] (c :: z) = -1 := by simp [Go.Lib.compareBytes]
    rw [h1, h2]
    exact ⟨by omega, by omega, by omega, fun _ => rfl⟩
  | a :: x, [], c :: z => by
    have h1 : Go.Lib.compareBytes (a :: x) [] = 1 := by simp [Go.Lib.compareBytes]
    have h2 : Go.Lib.compareBytes [] (c :: z) = -1 := by simp [Go.Lib.compareBytes]
    rw [h1, h2]
    exact ⟨by omega, by omega, by omega, by omega⟩
  | a :: x, b :: y, [] => by
    have h1 : Go.Lib.compareBytes (a :: x) [] = 1 := by simp [Go.Lib.compareBytes]
    have h2 : Go.Lib.compareBytes (b :: y) [] = 1 := by simp [Go.Lib.compareBytes]
    rw [h1, h2]
    exact ⟨by omega, by omega, fun _ => rfl, by omega⟩
  | a :: x, b :: y, c :: z => by
    rw [compareBytes_cons, compareBytes_cons, compareBytes_cons]
    exact (cmpZ_tri _ _ _).nz fun _ _ => bytes_tri x y z
theorem bytes_anti : ∀ a b : List UInt8, Go.Lib.compareBytes b a = -Go.Lib.compareBytes a b
  | [], [] => by simp [Go.Lib.compareBytes]
  | [], _ :: _ => by simp [Go.Lib.compareBytes]
  | _ :: _, [] => by simp [Go.Lib.compareBytes]
  | a :: x, b :: y => by
    rw [compareBytes_cons, compareBytes_cons]
    exact nz_anti (cmpZ_anti _ _) fun _ => bytes_anti x y
theorem bytes_range : ∀ a b : List UInt8, -1 ≤ Go.Lib.compareBytes a b ∧ Go.Lib.compareBytes a b ≤ 1
  | [], [] => by simp [Go.Lib.compareBytes]
  | [], _ :: _ => by simp [Go.Lib.compareBytes]
  | _ :: _, [] => by simp [Go.Lib.compareBytes]
  | a :: x, b :: y => by
    rw [compareBytes_cons]
    exact nz_range (cmpZ_range _ _) (bytes_range x y)
theorem cmpS_tri (a b c : ByteArray) : Tri (cmpS a b) (cmpS b c) (cmpS a c) := by
  rw [← compareBytes_cmpS, ← compareBytes_cmpS, ← compareBytes_cmpS]; exact bytes_tri _ _ _
theorem cmpS_anti (a b : ByteArray) : cmpS b a = -cmpS a b := by
  rw [← compareBytes_cmpS, ← compareBytes_cmpS]; exact bytes_anti _ _
theorem cmpS_range (a b : ByteArray) : -1 ≤ cmpS a b ∧ cmpS a b ≤ 1 := by
  rw [← compareBytes_cmpS]; exact bytes_range _ _
theorem cmpS_eq {a b : ByteArray} (h : cmpS a b = 0) : a = b := by
  have h1 := cmpS_zero.1 h
  rw [ByteArray.toList_eq, ByteArray.toList_eq] at h1
  have h2 : a.data.toList = b.data.toList := by simpa using h1
  cases a; cases b
  simp only at h2
  rw [Array.toList_inj.1 h2]
theorem cmpS_self (a : ByteArray) : cmpS a a = 0 := cmpS_zero.2 (by simp)
/-- Nodes. -/
theorem head_tri (f g h : Fm) : Tri (headZ f g) (headZ g h) (headZ f h) :=
  (cmpZ_tri _ _ _).nz fun _ _ => (cmpS_tri _ _ _).nz fun _ _ => (cmpZ_tri _ _ _).nz fun _ _ => (cmpZ_tri _ _ _).nz fun _ _ => cmpZ_tri _ _ _
theorem head_anti (f g : Fm) : headZ g f = -headZ f g :=
  nz_anti (cmpZ_anti _ _) fun _ => nz_anti (cmpS_anti _ _) fun _ => nz_anti (cmpZ_anti _ _) fun _ => nz_anti (cmpZ_anti _ _) fun _ => cmpZ_anti _ _
theorem head_range (f g : Fm) : -1 ≤ headZ f g ∧ headZ f g ≤ 1 :=
  nz_range (cmpZ_range _ _) (nz_range (cmpS_range _ _) (nz_range (cmpZ_range _ _) (nz_range (cmpZ_range _ _) (cmpZ_range _ _))))
/-- The same fields. -/
theorem head_same {f g : Fm} (h : headZ f g = 0) : f.op = g.op ∧ f.name = g.name ∧ f.val = g.val ∧ f.bound = g.bound ∧ f.args.length = g.args.length := by
  have hl := head_len h
  unfold headZ at h
  have r1 := nz_right h
  have r2 := nz_right r1
  have r3 := nz_right r2
  exact ⟨cmpZ_zero.1 (nz_left h), cmpS_eq (nz_left r1), cmpZ_zero.1 (nz_left r2), cmpZ_zero.1 (nz_left r3), hl⟩
mutual
theorem cmp_tri : ∀ f g h : Fm, Tri (f.cmp g) (g.cmp h) (f.cmp h)
  | .mk o n v b l, .mk o' n' v' b' l', .mk o'' n'' v'' b'' l'' => by
    rw [cmp_eq, cmp_eq, cmp_eq]
    exact (head_tri _ _ _).nz fun h1 h2 => cmps_tri l l' l'' (head_len h1) (head_len h2)
theorem cmps_tri : ∀ l m n : List Fm, l.length = m.length → m.length = n.length → Tri (cmps l m) (cmps m n) (cmps l n)
  | [], [], [], _, _ => by simp only [cmps]; exact cmpZ_tri 0 0 0
  | f :: l, g :: m, h :: n, h1, h2 => by
    simp only [cmps]
    exact (cmp_tri f g h).nz fun _ _ => cmps_tri l m n (by simpa using h1) (by simpa using h2)
end
mutual
theorem cmp_anti : ∀ f g : Fm, g.cmp f = -f.cmp g
  | .mk o n v b l, .mk o' n' v' b' l' => by
    rw [cmp_eq, cmp_eq]
    exact nz_anti (head_anti _ _) fun h => cmps_anti l l' (head_len h)
theorem cmps_anti : ∀ l m : List Fm, l.length = m.length → cmps m l = -cmps l m
  | [], [], _ => by simp [cmps]
  | f :: l, g :: m, h => by
    simp only [cmps]
    exact nz_anti (cmp_anti f g) fun _ => cmps_anti l m (by simpa using h)
end
mutual
theorem cmp_range : ∀ f g : Fm, -1 ≤ f.cmp g ∧ f.cmp g ≤ 1
  | .mk o n v b l, .mk o' n' v' b' l' => by
    rw [cmp_eq]
    exact nz_range (head_range _ _) (cmps_range l l')
theorem cmps_range : ∀ l m : List Fm, -1 ≤ cmps l m ∧ cmps l m ≤ 1
  | [], _ => by simp [cmps]
  | _ :: _, [] => by simp [cmps]
  | f :: l, g :: m => by
    simp only [cmps]
    exact nz_range (cmp_range f g) (cmps_range l m)
end
mutual
theorem cmp_eq_of : ∀ f g : Fm, f.cmp g = 0 → f = g
  | .mk o n v b l, .mk o' n' v' b' l', h => by
    rw [cmp_eq] at h
    obtain ⟨h1, h2, h3, h4, h5⟩ := head_same (nz_left h)
    exact Fm.ext h1 h2 h3 h4 (cmps_eq_of l l' h5 (nz_right h))
theorem cmps_eq_of : ∀ l m : List Fm, l.length = m.length → cmps l m = 0 → l = m
  | [], [], _, _ => rfl
  | f :: l, g :: m, h1, h2 => by
    simp only [cmps] at h2
    rw [cmp_eq_of f g (nz_left h2), cmps_eq_of l m (by simpa using h1) (nz_right h2)]
end
/-- 0 for equal formulas only. -/
theorem cmp_zero {f g : Fm} : f.cmp g = 0 ↔ f = g := ⟨cmp_eq_of f g, fun h => by rw [h]; exact cmp_self g⟩
theorem cmps_at : ∀ (l m : List Fm) (i : Nat), i < l.length → l.length = m.length → cmps l m = 0 → (l.getD i default).cmp (m.getD i default) = 0
  | f :: l, g :: m, 0, _, _, h => by
    simp only [cmps] at h
    simpa using nz_left h
  | f :: l, g :: m, i + 1, h1, h2, h => by
    simp only [cmps] at h
    simpa using cmps_at l m i (by simpa using h1) (by simpa using h2) (nz_right h)
end Go.Proofs.YtdakdpfofgkjoaaGreatDoor
set_option linter.unusedVariables false
set_option linter.unusedSimpArgs false
namespace Go.Proofs.YtdakdpfofgkjoaaGreatDoor

mutual
theorem all_less {q : Fm × Bool → Bool} (hq : ∀ x, q (x, true) = true → q (x, false) = true) : ∀ (f : Fm), (preL true f).all q = true → (preL false f).all q = true
  | .mk o n v b l, h => by
    rw [preL_eq, List.all_cons, Bool.and_eq_true] at h
    rw [preL_eq, List.all_cons, Bool.and_eq_true]
    refine ⟨hq _ h.1, ?_⟩
    have h2 := h.2
    simp only [Bool.true_or, Bool.false_or, Fm.op, Fm.args] at h2 ⊢
    cases (formZ o).past
    · exact alls_less hq l h2
    · exact h2
theorem alls_less {q : Fm × Bool → Bool} (hq : ∀ x, q (x, true) = true → q (x, false) = true) : ∀ (l : List Fm), (preLs true l).all q = true → (preLs false l).all q = true
  | [], _ => rfl
  | f :: l, h => by
    simp only [preLs, List.all_append, Bool.and_eq_true] at h ⊢
    exact ⟨all_less hq f h.1, alls_less hq l h.2⟩
end
theorem alls_mem {q : Fm × Bool → Bool} {ins : Bool} : ∀ {l : List Fm} {g : Fm}, g ∈ l → (preLs ins l).all q = true → (preL ins g).all q = true
  | [], g, h, _ => by cases h
  | f :: l, g, h, ha => by
    simp only [preLs, List.all_append, Bool.and_eq_true] at ha
    rcases List.mem_cons.1 h with e | e
    · rw [e]; exact ha.1
    · exact alls_mem e ha.2
theorem alls_of {q : Fm × Bool → Bool} {ins : Bool} : ∀ {l : List Fm}, (∀ g, g ∈ l → (preL ins g).all q = true) → (preLs ins l).all q = true
  | [], _ => rfl
  | f :: l, h => by
    simp only [preLs, List.all_append, Bool.and_eq_true]
    exact ⟨h f (by simp), alls_of fun g hg => h g (by simp [hg])⟩
/-- All nodes of an argument. -/
theorem allB_arg {q : Fm × Bool → Bool} (hq : ∀ x, q (x, true) = true → q (x, false) = true) {f g : Fm} (hg : g ∈ f.args) (h : allB q f = true) : allB q g = true := by
  unfold allB at h ⊢
  rw [preL_eq, List.all_cons, Bool.and_eq_true] at h
  have := alls_mem hg h.2
  cases hp : (false || (formZ f.op).past)
  · rw [hp] at this; exact this
  · rw [hp] at this; exact all_less hq g this
theorem allB_root {q : Fm × Bool → Bool} {f : Fm} (h : allB q f = true) : q (f, false) = true := by
  unfold allB at h
  rw [preL_eq, List.all_cons, Bool.and_eq_true] at h
  exact h.1
theorem allB_imp {q r : Fm × Bool → Bool} (hq : ∀ x, q x = true → r x = true) {f : Fm} (h : allB q f = true) : allB r f = true := by
  unfold allB at h ⊢
  rw [List.all_eq_true] at h ⊢
  exact fun x hx => hq x (h x hx)
theorem layQ_less (x : Fm) : layQ (x, true) = true → layQ (x, false) = true := by
  unfold layQ; simp
theorem bareQ_less (x : Fm) : bareQ (x, true) = true → bareQ (x, false) = true := by
  unfold bareQ; simp only [Bool.and_eq_true]; rintro ⟨⟨⟨h1, h2⟩, h3⟩, h4⟩; exact ⟨⟨⟨h1, h2⟩, by simp⟩, h4⟩
theorem past_layered {f : Fm} (h : allB pastQ f = true) : allB layQ f = true := allB_imp (fun x hx => by
  unfold pastQ at hx; unfold layQ
  simp only [Bool.not_eq_true'] at hx
  rw [hx]; rfl) h
theorem bare_shaped {f : Fm} (h : allB bareQ f = true) : allB shpQ f = true := allB_imp (fun x hx => by
  unfold bareQ at hx; unfold shpQ
  simp only [Bool.and_eq_true] at hx
  exact hx.1.1.2) h
theorem bare_layered {f : Fm} (h : allB bareQ f = true) : allB layQ f = true := allB_imp (fun x hx => by
  unfold bareQ at hx; unfold layQ
  simp only [Bool.and_eq_true] at hx
  exact hx.1.2) h
theorem kernel_valid {f : Fm} (h : kernelB f = true) : validB f = true ∧ allB layQ f = true := by
  unfold kernelB at h
  rw [Bool.and_eq_true] at h
  exact ⟨by unfold validB; rw [h.1, bare_shaped h.2]; rfl, bare_layered h.2⟩
theorem fits_arg {f g : Fm} (hg : g ∈ f.args) {s d : Int} (h : fitsB f s d = true) : fitsB g s d = true := by
  rw [fits_true] at h ⊢
  have h1 := sizes_mem hg
  have h2 := depths_mem hg
  rw [Fm.size_eq, Fm.depth_eq] at h
  omega
theorem valid_arg {f g : Fm} (hg : g ∈ f.args) (h : validB f = true) : validB g = true := by
  unfold validB at h ⊢
  rw [Bool.and_eq_true] at h ⊢
  exact ⟨fits_arg hg h.1, allB_arg (q := shpQ) (fun _ h => h) hg h.2⟩
theorem kernel_arg {f g : Fm} (hg : g ∈ f.args) (h : kernelB f = true) : kernelB g = true := by
  unfold kernelB at h ⊢
  rw [Bool.and_eq_true] at h ⊢
  exact ⟨fits_arg hg h.1, allB_arg bareQ_less hg h.2⟩
/-! Names. -/
def ltS (a b : ByteArray) : Bool := Go.Op.bytesLess a.toList b.toList
theorem bytesLess_self : ∀ l : List UInt8, Go.Op.bytesLess l l = false
  | [] => rfl
  | a :: l => by rw [Go.Op.bytesLess]; simp [bytesLess_self l, UInt8.lt_irrefl]
theorem ltS_iff (a b : ByteArray) : ltS a b = true ↔ cmpS a b < 0 := by
  unfold ltS cmpS
  cases h : a.toList == b.toList
  · cases Go.Op.bytesLess a.toList b.toList <;> simp
  · have e : a.toList = b.toList := by simpa using h
    rw [e, bytesLess_self]; simp
theorem ltS_irrefl (a : ByteArray) : ltS a a = false := by
  cases h : ltS a a
  · rfl
  · rw [ltS_iff, cmpS_self] at h; omega
theorem ltS_trans {a b c : ByteArray} (h : ltS a b = true) (k : ltS b c = true) : ltS a c = true := by
  rw [ltS_iff] at *
  exact (cmpS_tri a b c).lt (by omega) (by omega) (.inl h)
theorem ltS_total {a b : ByteArray} (h : ltS a b = false) (hne : a ≠ b) : ltS b a = true := by
  rw [ltS_iff, cmpS_anti]
  have h1 : ¬ cmpS a b < 0 := fun e => by rw [(ltS_iff a b).2 e] at h; cases h
  have h2 : cmpS a b ≠ 0 := fun e => hne (cmpS_eq e)
  omega
/-- Strictly sorted. -/
def Asc (l : List ByteArray) : Prop := l.Pairwise fun a b => ltS a b = true
theorem Asc.ext : ∀ {l m : List ByteArray}, Asc l → Asc m → (∀ x, x ∈ l ↔ x ∈ m) → l = m
  | [], [], _, _, _ => rfl
  | [], b :: m, _, _, h => absurd ((h b).2 (by simp)) (by simp)
  | a :: l, [], _, _, h => absurd ((h a).1 (by simp)) (by simp)
  | a :: l, b :: m, h1, h2, h => by
    rw [Asc, List.pairwise_cons] at h1 h2
    have hab : a = b := by
      rcases List.mem_cons.1 ((h a).1 (by simp)) with e | e
      · exact e
      · rcases List.mem_cons.1 ((h b).2 (by simp)) with e' | e'
        · exact e'.symm
        · have h3 := ltS_trans (h2.1 a e) (h1.1 b e')
          rw [ltS_irrefl] at h3; cases h3
    subst hab
    congr 1
    refine Asc.ext h1.2 h2.2 fun x => ⟨fun hx => ?_, fun hx => ?_⟩
    · rcases List.mem_cons.1 ((h x).1 (by simp [hx])) with e | e
      · have := h1.1 x hx
        rw [e, ltS_irrefl] at this; cases this
      · exact e
    · rcases List.mem_cons.1 ((h x).2 (by simp [hx])) with e | e
      · have := h2.1 x hx
        rw [e, ltS_irrefl] at this; cases this
      · exact e
/-- A string put into a sorted list. -/
def insN (l : List ByteArray) (s : ByteArray) : List ByteArray :=
  if l.any (fun x => x.toList == s.toList) then l else l.filter (fun x => ltS x s) ++ [s] ++ l.drop (l.filter fun x => ltS x s).length
theorem bytes_ext {a b : ByteArray} : (a.toList == b.toList) = true ↔ a = b := by
  rw [← cmpS_zero]; exact ⟨cmpS_eq, fun h => by rw [h]; exact cmpS_self _⟩
theorem asc_filter : ∀ {l : List ByteArray} (s : ByteArray), Asc l → l = l.filter (fun x => ltS x s) ++ l.drop (l.filter fun x => ltS x s).length ∧ ∀ x, x ∈ l.drop (l.filter fun x => ltS x s).length → ltS x s = false
  | [], s, _ => by simp
  | a :: l, s, h => by
    have h' := h
    rw [Asc, List.pairwise_cons] at h
    cases ha : ltS a s
    · have hall : ∀ x, x ∈ a :: l → ltS x s = false := by
        intro x hx
        rcases List.mem_cons.1 hx with e | e
        · rw [e]; exact ha
        · cases hxs : ltS x s
          · rfl
          · rw [ltS_trans (h.1 x e) hxs] at ha; cases ha
      have hf : (a :: l).filter (fun x => ltS x s) = [] := List.filter_eq_nil_iff.2 fun x hx => by rw [hall x hx]; simp
      rw [hf]
      exact ⟨rfl, fun x hx => hall x hx⟩
    · obtain ⟨i1, i2⟩ := asc_filter s h.2
      rw [List.filter_cons, if_pos ha, List.length_cons, List.drop_succ_cons]
      exact ⟨by rw [List.cons_append, ← i1], i2⟩
theorem insN_mem {l : List ByteArray} {s : ByteArray} (h : Asc l) (x : ByteArray) : x ∈ insN l s ↔ x ∈ l ∨ x = s := by
  unfold insN
  by_cases hs : l.any (fun x => x.toList == s.toList) = true
  · rw [if_pos hs]
    rw [List.any_eq_true] at hs
    obtain ⟨y, hy, he⟩ := hs
    rw [bytes_ext] at he
    subst he
    exact ⟨.inl, fun h => h.elim id fun e => e ▸ hy⟩
  · rw [if_neg hs]
    have e := (asc_filter s h).1
    have e2 : x ∈ l ↔ x ∈ l.filter (fun x => ltS x s) ∨ x ∈ l.drop (l.filter fun x => ltS x s).length := by
      conv => lhs; rw [e]
      exact List.mem_append
    rw [List.mem_append, List.mem_append, e2, List.mem_singleton]
    constructor
    · rintro ((h | h) | h)
      · exact .inl (.inl h)
      · exact .inr h
      · exact .inl (.inr h)
    · rintro ((h | h) | h)
      · exact .inl (.inl h)
      · exact .inr h
      · exact .inl (.inr h)
theorem insN_asc {l : List ByteArray} {s : ByteArray} (h : Asc l) : Asc (insN l s) := by
  unfold insN
  by_cases hs : l.any (fun x => x.toList == s.toList) = true
  · rw [if_pos hs]; exact h
  · rw [if_neg hs]
    obtain ⟨e, e2⟩ := asc_filter s h
    have hne : ∀ x, x ∈ l → x ≠ s := fun x hx e => hs (List.any_eq_true.2 ⟨x, hx, bytes_ext.2 e⟩)
    have h' := h
    unfold Asc at h' ⊢
    rw [e, List.pairwise_append] at h'
    obtain ⟨p1, p2, p3⟩ := h'
    have hsub : ∀ x, x ∈ l.drop (l.filter fun x => ltS x s).length → x ∈ l := fun x hx => List.mem_of_mem_drop hx
    have hgt : ∀ x, x ∈ l.drop (l.filter fun x => ltS x s).length → ltS s x = true := fun x hx => ltS_total (e2 x hx) (hne x (hsub x hx))
    rw [List.append_assoc, List.pairwise_append]
    refine ⟨p1, ?_, fun a ha b hb => ?_⟩
    · rw [List.singleton_append, List.pairwise_cons]
      exact ⟨hgt, p2⟩
    · rw [List.singleton_append, List.mem_cons] at hb
      rcases hb with rfl | hb
      · exact (List.mem_filter.1 ha).2
      · exact p3 a ha b hb
def insAll (l : List ByteArray) (xs : List ByteArray) : List ByteArray := xs.foldl insN l
theorem insAll_asc : ∀ (xs : List ByteArray) {l : List ByteArray}, Asc l → Asc (insAll l xs)
  | [], _, h => h
  | x :: xs, _, h => insAll_asc xs (insN_asc h)
theorem insAll_mem : ∀ (xs : List ByteArray) {l : List ByteArray}, Asc l → ∀ x, x ∈ insAll l xs ↔ x ∈ l ∨ x ∈ xs
  | [], l, _, x => by simp [insAll]
  | y :: xs, l, h, x => by
    show x ∈ insAll (insN l y) xs ↔ _
    rw [insAll_mem xs (insN_asc h), insN_mem h, List.mem_cons]
    constructor
    · rintro ((h | h) | h)
      · exact .inl h
      · exact .inr (.inl h)
      · exact .inr (.inr h)
    · rintro (h | h | h)
      · exact .inl (.inl h)
      · exact .inl (.inr h)
      · exact .inr h
/-- The names of signals in a list of nodes. -/
def namesIn (L : List (Fm × Bool)) : List ByteArray := (L.filter fun x => decide (x.1.op = 3)).map fun x => x.1.name
def namesPre (f : Fm) : List ByteArray := namesIn (preL false f)
/-- The names of a formula's signals, sorted. -/
def namesF (f : Fm) : List ByteArray := insAll [] (namesPre f)
theorem namesF_asc (f : Fm) : Asc (namesF f) := insAll_asc _ List.Pairwise.nil
theorem namesF_mem (f : Fm) (x : ByteArray) : x ∈ namesF f ↔ x ∈ namesPre f := by
  unfold namesF
  rw [insAll_mem _ List.Pairwise.nil]
  simp
theorem namesIn_cons (x : Fm × Bool) (l : List (Fm × Bool)) : namesIn (x :: l) = (if x.1.op = 3 then [x.1.name] else []) ++ namesIn l := by
  unfold namesIn
  rw [List.filter_cons]
  by_cases h : x.1.op = 3
  · rw [if_pos (decide_eq_true h), if_pos h]; rfl
  · rw [if_neg (by rw [decide_eq_false h]; simp), if_neg h]; rfl
theorem namesIn_append (l m : List (Fm × Bool)) : namesIn (l ++ m) = namesIn l ++ namesIn m := by unfold namesIn; rw [List.filter_append, List.map_append]
mutual
theorem namesIn_ins : ∀ (ins : Bool) (f : Fm), namesIn (preL ins f) = namesIn (preL false f)
  | ins, .mk o n v b l => by
    rw [preL_eq, preL_eq, namesIn_cons, namesIn_cons]
    simp only [Fm.op, Fm.args, Fm.name]
    rw [namesIns_ins (ins || (formZ o).past) l, namesIns_ins (false || (formZ o).past) l]
theorem namesIns_ins : ∀ (ins : Bool) (l : List Fm), namesIn (preLs ins l) = namesIn (preLs false l)
  | _, [] => rfl
  | ins, f :: l => by
    simp only [preLs]
    rw [namesIn_append, namesIn_append, namesIn_ins ins f, namesIns_ins ins l]
end
theorem namesIns_mem : ∀ {l : List Fm} {x : ByteArray}, x ∈ namesIn (preLs false l) ↔ ∃ g, g ∈ l ∧ x ∈ namesPre g
  | [], x => by simp [preLs, namesIn]
  | f :: l, x => by
    have e : namesIn (preLs false (f :: l)) = namesPre f ++ namesIn (preLs false l) := by simp only [preLs]; rw [namesIn_append]; rfl
    rw [e, List.mem_append, namesIns_mem]
    constructor
    · rintro (h | ⟨g, hg, h⟩)
      · exact ⟨f, by simp, h⟩
      · exact ⟨g, by simp [hg], h⟩
    · rintro ⟨g, hg, h⟩
      rcases List.mem_cons.1 hg with e | e
      · rw [← e]; exact .inl h
      · exact .inr ⟨g, e, h⟩
theorem namesPre_mem {f : Fm} {x : ByteArray} : x ∈ namesPre f ↔ (f.op = 3 ∧ x = f.name) ∨ ∃ g, g ∈ f.args ∧ x ∈ namesPre g := by
  unfold namesPre
  rw [preL_eq]
  have e : namesIn ((f, false) :: preLs (false || (formZ f.op).past) f.args) = (if f.op = 3 then [f.name] else []) ++ namesIn (preLs false f.args) := by
    rw [namesIn_cons, namesIns_ins (false || (formZ f.op).past) f.args]
  rw [e, List.mem_append, namesIns_mem]
  apply or_congr
  · split
    · rename_i h; simp [h]
    · rename_i h; simp [h]
  · rfl
theorem nodup_len {α : Type} : ∀ {l m : List α}, l.Nodup → (∀ x, x ∈ l → x ∈ m) → l.length ≤ m.length
  | [], _, _, _ => Nat.zero_le _
  | a :: l, m, h, hs => by
    rw [List.nodup_cons] at h
    obtain ⟨p, q, rfl⟩ := List.append_of_mem (hs a (by simp))
    have := nodup_len (m := p ++ q) h.2 fun x hx => by
      have h1 := hs x (by simp [hx])
      rw [List.mem_append, List.mem_cons] at h1
      rw [List.mem_append]
      rcases h1 with h1 | rfl | h1
      · exact .inl h1
      · exact absurd hx h.1
      · exact .inr h1
    simp only [List.length_cons, List.length_append] at this ⊢
    omega
theorem Asc.nodup {l : List ByteArray} (h : Asc l) : l.Nodup := h.imp fun {a b} hab e => by rw [e, ltS_irrefl] at hab; cases hab
def namesSum (l : List Fm) : Nat := (l.map fun g => (namesF g).length).sum
theorem names_le {f : Fm} (h : f.op ≠ 3) : (namesF f).length ≤ namesSum f.args := by
  have e : namesSum f.args = (f.args.flatMap namesF).length := by
    unfold namesSum
    rw [List.length_flatMap]
  rw [e]
  refine nodup_len (namesF_asc f).nodup fun x hx => ?_
  rw [namesF_mem, namesPre_mem] at hx
  rcases hx with ⟨h1, _⟩ | ⟨g, hg, hx⟩
  · exact absurd h1 h
  · rw [List.mem_flatMap]
    exact ⟨g, hg, (namesF_mem g x).2 hx⟩
theorem names_arg {f g : Fm} (hg : g ∈ f.args) {x : ByteArray} (hx : x ∈ namesF g) : x ∈ namesF f := by
  rw [namesF_mem] at hx ⊢
  exact namesPre_mem.2 (.inr ⟨g, hg, hx⟩)
end Go.Proofs.YtdakdpfofgkjoaaGreatDoor
set_option linter.unusedVariables false
set_option linter.unusedSimpArgs false
namespace Go.Proofs.YtdakdpfofgkjoaaGreatDoor

theorem Fm.ind {P : Fm → Prop} (h : ∀ f, (∀ g, g ∈ f.args → P g) → P f) (f : Fm) : P f :=
  Fm.induct (fun f ih => h f fun g hg => by
    obtain ⟨i, hi, rfl⟩ := List.getElem_of_mem hg
    have := ih i hi
    rwa [List.getD_eq_getElem?_getD, List.getElem?_eq_getElem hi] at this) f
theorem shp_out {f : Fm} (h : shapedB f = true) : isOp f.op = true ∧ (formZ f.op).least ≤ f.args.length ∧ f.args.length ≤ (formZ f.op).most ∧ 0 ≤ f.val ∧ f.val ≤ (formZ f.op).val ∧ 0 ≤ f.bound ∧ f.bound ≤ (formZ f.op).bound ∧ nameOk (formZ f.op) f.name = true := by
  unfold shapedB at h
  simp only [Bool.and_eq_true, decide_eq_true_eq] at h
  obtain ⟨⟨⟨⟨⟨⟨⟨h1, h2⟩, h3⟩, h4⟩, h5⟩, h6⟩, h7⟩, h8⟩ := h
  exact ⟨h1, h2, h3, h4, h5, h6, h7, h8⟩
theorem shp_of {f : Fm} (h1 : isOp f.op = true) (h2 : (formZ f.op).least ≤ f.args.length) (h3 : f.args.length ≤ (formZ f.op).most) (h4 : 0 ≤ f.val) (h5 : f.val ≤ (formZ f.op).val) (h6 : 0 ≤ f.bound) (h7 : f.bound ≤ (formZ f.op).bound) (h8 : nameOk (formZ f.op) f.name = true) : shapedB f = true := by
  unfold shapedB
  simp only [Bool.and_eq_true, decide_eq_true_eq]
  exact ⟨⟨⟨⟨⟨⟨⟨h1, h2⟩, h3⟩, h4⟩, h5⟩, h6⟩, h7⟩, h8⟩
theorem isOp_cases {o : Int} (h : isOp o = true) : o = 1 ∨ o = 2 ∨ o = 3 ∨ o = 4 ∨ o = 5 ∨ o = 6 ∨ o = 7 ∨ o = 8 ∨ o = 9 ∨ o = 10 ∨ o = 11 ∨ o = 12 ∨ o = 13 ∨ o = 14 ∨ o = 15 ∨ o = 16 ∨ o = 17 ∨ o = 18 ∨ o = 19 := by
  unfold isOp at h
  simp at h
  omega
theorem empty_name {s : ByteArray} (h : s.toList.isEmpty = true) : s = ⟨#[]⟩ := by
  rw [ByteArray.toList_eq] at h
  have h1 : s.data.toList = [] := by simpa using h
  cases s
  simp only at h1
  rw [Array.toList_eq_nil_iff.1 h1]
/-- An operator that is not among the four with forms of their own. -/
def genOp (o : Int) : Bool := isOp o && !(decide (o = 3) || decide (o = 4) || decide (o = 13) || decide (o = 14))
theorem gen_cases {o : Int} (h : genOp o = true) : o = 1 ∨ o = 2 ∨ o = 5 ∨ o = 6 ∨ o = 7 ∨ o = 8 ∨ o = 9 ∨ o = 10 ∨ o = 11 ∨ o = 12 ∨ o = 15 ∨ o = 16 ∨ o = 17 ∨ o = 18 ∨ o = 19 := by
  unfold genOp isOp at h
  simp at h
  omega
theorem gen_of {o : Int} (h : isOp o = true) (h3 : o ≠ 3) (h4 : o ≠ 4) (h5 : o ≠ 13) (h6 : o ≠ 14) : genOp o = true := by
  unfold genOp
  rw [h, decide_eq_false h3, decide_eq_false h4, decide_eq_false h5, decide_eq_false h6]; rfl
theorem kf_gen {o : Int} (h : genOp o = true) (neg : Bool) (n : ByteArray) (v b : Int) (l : List Fm) : kf neg (.mk o n v b l) = .mk (opOut neg o) n (valOut neg o v) 0 (loneL neg o ++ kfs (turn0 neg o) (turn1 neg o) l) := by
  rw [kf_eq]
  simp only [Fm.op, Fm.name, Fm.val, Fm.bound, Fm.args]
  unfold kfOut
  rcases gen_cases h with rfl | rfl | rfl | rfl | rfl | rfl | rfl | rfl | rfl | rfl | rfl | rfl | rfl | rfl | rfl <;> rfl
theorem kf_not (neg : Bool) (n : ByteArray) (v b : Int) (g : Fm) : kf neg (.mk 4 n v b [g]) = kf (!neg) g := by
  rw [kf_eq]
  rfl
theorem kf_is (n : ByteArray) (v b : Int) : kf false (.mk 3 n v b []) = .mk 3 n v 0 [] := by
  rw [kf_eq]
  rfl
theorem kf_isnot (n : ByteArray) (v b : Int) : kf true (.mk 3 n v b []) = opF 4 [isF n v] := by
  rw [kf_eq]
  rfl
theorem kf_rep {o : Int} (h : o = 13 ∨ o = 14) (neg : Bool) (n : ByteArray) (v b : Int) (g : Fm) : kf neg (.mk o n v b [g]) = repF (opOut neg o) b.toNat (kf neg g) := by
  rw [kf_eq]
  rcases h with rfl | rfl <;> rfl
/-- What the operators of forms are like. -/
structure OpFacts (b : Bool) (o : Int) : Prop where
  gen : genOp (opOut b o) = true
  dual : opOut true (opOut b o) = opOut (!b) o
  lone : loneL true (opOut b o) = []
  t0 : turn0 true (opOut b o) = true
  t1 : turn1 true (opOut b o) = true
  f0 : turn0 (!b) o = !(turn0 b o)
  f1 : turn1 (!b) o = !(turn1 b o)
  lmap : (loneL b o).map (kf true) = loneL (!b) o
  val : ∀ v, v ≤ (formZ o).val → 0 ≤ v → valOut true (opOut b o) (valOut b o v) = valOut (!b) o v
  loose : (formZ (opOut b o)).loose = true
  fut : (formZ (opOut b o)).future = true → (formZ o).future = true
  past : (formZ (opOut b o)).past = (formZ o).past
  ne3 : opOut b o ≠ 3
  ne4 : opOut b o ≠ 4
  vmin : ∀ v, v ≤ (formZ o).val → 0 ≤ v → 0 ≤ valOut b o v
  vmax : ∀ v, v ≤ (formZ o).val → 0 ≤ v → valOut b o v ≤ (formZ (opOut b o)).val
  bmax : (0 : Int) ≤ (formZ (opOut b o)).bound
  least : ∀ n, (formZ o).least ≤ n → n ≤ (formZ o).most → (formZ (opOut b o)).least ≤ (loneL b o).length + n
  most : ∀ n, (formZ o).least ≤ n → n ≤ (formZ o).most → (loneL b o).length + n ≤ (formZ (opOut b o)).most
  named : (formZ (opOut b o)).named = false
  named0 : (formZ o).named = false
  lones : ∀ g, g ∈ loneL b o → g = opF 1 [] ∨ g = opF 2 []
theorem valOut_plain {b : Bool} {o : Int} (h : isLate o = false) (h2 : isLone o = false) (v : Int) : valOut b o v = v := by
  unfold valOut; rw [h, h2]; rfl
set_option maxHeartbeats 2000000 in
theorem op_facts {o : Int} (h : genOp o = true) (b : Bool) : OpFacts b o := by
  rcases gen_cases h with rfl | rfl | rfl | rfl | rfl | rfl | rfl | rfl | rfl | rfl | rfl | rfl | rfl | rfl | rfl <;> cases b
  all_goals
    refine ⟨by rfl, by rfl, by rfl, by rfl, by rfl, by rfl, by rfl, by rfl, fun v h1 h2 => ?_, by rfl, by decide, by rfl, by decide, by decide, fun v h1 h2 => ?_, fun v h1 h2 => ?_, by decide, fun n h1 h2 => ?_, fun n h1 h2 => ?_, by rfl, by rfl, fun g hg => ?_⟩
    · simp [formZ, isOp, formsL, form0] at h1
      simp [valOut, isLate, isLone, opOut, dualZ, fullZ] <;> omega
    · simp [formZ, isOp, formsL, form0] at h1
      simp [valOut, isLate, isLone, opOut, dualZ, fullZ] <;> omega
    · simp [formZ, isOp, formsL, form0] at h1
      simp [valOut, isLate, isLone, opOut, dualZ, fullZ, formZ, isOp, formsL, form0] <;> omega
    · simp [formZ, isOp, formsL, form0, manyN] at h1 h2
      simp [loneL, isLone, opOut, dualZ, fullZ, formZ, isOp, formsL, form0, manyN] <;> omega
    · simp [formZ, isOp, formsL, form0, manyN] at h1 h2
      simp [loneL, isLone, opOut, dualZ, fullZ, formZ, isOp, formsL, form0, manyN] <;> omega
    · simp [loneL, isLone, opOut, dualZ, fullZ] at hg
      try simp [hg]
theorem kfs_map : ∀ (l : List Fm) (a r : Bool), (∀ g, g ∈ l → ∀ b, kf true (kf b g) = kf (!b) g) → (kfs a r l).map (kf true) = kfs (!a) (!r) l
  | [], _, _, _ => rfl
  | f :: l, a, r, h => by
    simp only [kfs, List.map_cons]
    rw [h f (by simp), kfs_map l r r fun g hg => h g (by simp [hg])]
theorem kfs_all (r : Bool) (l : List Fm) : kfs r r l = l.map (kf r) := kfs_rr r l
theorem repF_neg {p : Int} (h : p = 5 ∨ p = 6) (f : Fm) : ∀ n, kf true (repF p n f) = repF (opOut true p) n (kf true f)
  | 0 => rfl
  | n + 1 => by
    have e8 : kf true (opF 8 [repF p n f]) = opF 8 [kf true (repF p n f)] := rfl
    have e : kf true (opF p [f, opF 8 [repF p n f]]) = opF (opOut true p) [kf true f, kf true (opF 8 [repF p n f])] := by
      rcases h with rfl | rfl <;> rfl
    rw [repF, e, e8, repF_neg h f n]
    rfl
theorem one_arg {f : Fm} (h0 : (formZ f.op).least = 1) (h1 : (formZ f.op).most = 1) (hs : shapedB f = true) : ∃ g, f.args = [g] := by
  obtain ⟨_, h2, h3, _⟩ := shp_out hs
  rw [h0] at h2
  rw [h1] at h3
  cases hf : f.args with
  | nil => rw [hf] at h2; simp at h2
  | cons g l =>
    cases l with
    | nil => exact ⟨g, rfl⟩
    | cons g' l => rw [hf] at h3; simp at h3
theorem no_arg {f : Fm} (h1 : (formZ f.op).most = 0) (hs : shapedB f = true) : f.args = [] := by
  obtain ⟨_, h2, h3, _⟩ := shp_out hs
  rw [h1] at h3
  exact List.eq_nil_of_length_eq_zero (by omega)
/-- Which kinds of nodes there are. -/
theorem op_parts {f : Fm} (hs : shapedB f = true) : (f.op = 3 ∧ f.args = []) ∨ (f.op = 4 ∧ ∃ g, f.args = [g]) ∨ ((f.op = 13 ∨ f.op = 14) ∧ ∃ g, f.args = [g]) ∨ genOp f.op = true := by
  have h0 := (shp_out hs).1
  by_cases h3 : f.op = 3
  · exact .inl ⟨h3, no_arg (by rw [h3]; rfl) hs⟩
  · by_cases h4 : f.op = 4
    · exact .inr (.inl ⟨h4, one_arg (by rw [h4]; rfl) (by rw [h4]; rfl) hs⟩)
    · by_cases h5 : f.op = 13
      · exact .inr (.inr (.inl ⟨.inl h5, one_arg (by rw [h5]; rfl) (by rw [h5]; rfl) hs⟩))
      · by_cases h6 : f.op = 14
        · exact .inr (.inr (.inl ⟨.inr h6, one_arg (by rw [h6]; rfl) (by rw [h6]; rfl) hs⟩))
        · exact .inr (.inr (.inr (gen_of h0 h3 h4 h5 h6)))
/-- All nodes of a formula within ins. -/
def allI (q : Fm × Bool → Bool) (ins : Bool) (f : Fm) : Prop := (preL ins f).all q = true
theorem allI_iff {q : Fm × Bool → Bool} {ins : Bool} {f : Fm} : allI q ins f ↔ q (f, ins) = true ∧ ∀ g, g ∈ f.args → allI q (ins || (formZ f.op).past) g := by
  unfold allI
  rw [preL_eq, List.all_cons, Bool.and_eq_true]
  exact and_congr_right fun _ => ⟨fun h g hg => alls_mem hg h, fun h => alls_of h⟩
theorem allB_iff {q : Fm × Bool → Bool} {f : Fm} : allB q f = true ↔ allI q false f := Iff.rfl
/-- The form of a form. -/
theorem kf_kf (f : Fm) : ∀ (ins : Bool), allI shpQ ins f → ∀ b, kf true (kf b f) = kf (!b) f := by
  refine Fm.ind (P := fun f => ∀ (ins : Bool), allI shpQ ins f → ∀ b, kf true (kf b f) = kf (!b) f) ?_ f
  intro f ih ins hf b
  obtain ⟨hs, ha⟩ := allI_iff.1 hf
  have hs : shapedB f = true := hs
  have hout := shp_out hs
  have hp := op_parts hs
  obtain ⟨o, n, v, bd, l⟩ := f
  simp only [Fm.op, Fm.name, Fm.val, Fm.bound, Fm.args] at *
  rcases hp with ⟨rfl, rfl⟩ | ⟨rfl, g, rfl⟩ | ⟨ho, g, rfl⟩ | hg
  · cases b
    · rw [kf_is, kf_isnot]; exact (kf_isnot n v bd).symm
    · rw [kf_isnot]
      show kf true (.mk 4 ⟨#[]⟩ 0 0 [isF n v]) = _
      rw [kf_not]
      exact kf_is n v 0
  · rw [kf_not, kf_not]
    have := ih g (by simp) _ (ha g (by simp)) (!b)
    rw [this]
  · rw [kf_rep ho, kf_rep ho]
    rw [repF_neg (by rcases ho with rfl | rfl <;> cases b <;> simp [opOut, dualZ, fullZ]), ih g (by simp) _ (ha g (by simp)) b]
    congr 1
    rcases ho with rfl | rfl <;> cases b <;> rfl
  · have F := op_facts hg b
    rw [kf_gen hg, kf_gen F.gen, kf_gen hg, F.dual, F.lone, F.t0, F.t1, kfs_all, List.map_append, F.lmap, kfs_map l _ _ fun g hg b => ih g hg _ (ha g hg) b, F.f0, F.f1, F.val v hout.2.2.2.2.1 hout.2.2.2.1]
    rfl
theorem mem_kfs : ∀ {l : List Fm} {a r : Bool} {x : Fm}, x ∈ kfs a r l → ∃ g b, g ∈ l ∧ x = kf b g
  | [], _, _, x, h => by cases h
  | f :: l, a, r, x, h => by
    simp only [kfs] at h
    rcases List.mem_cons.1 h with rfl | h
    · exact ⟨f, a, by simp, rfl⟩
    · obtain ⟨g, b, hg, e⟩ := mem_kfs h
      exact ⟨g, b, by simp [hg], e⟩
theorem bare_mk {ins : Bool} {f : Fm} (h1 : (formZ f.op).loose = true) (h2 : shapedB f = true) (h3 : (formZ f.op).future = true → ins = false) (h4 : f.op = 4 → (f.args.getD 0 default).op = 3) : bareQ (f, ins) = true := by
  unfold bareQ notQ
  simp only [h1, h2, Bool.true_and]
  rw [Bool.and_eq_true]
  constructor
  · cases hf : (formZ f.op).future
    · rfl
    · rw [h3 hf]; rfl
  · by_cases e : f.op = 4
    · rw [decide_eq_true e, decide_eq_true (h4 e)]; rfl
    · rw [decide_eq_false e]; rfl
theorem nameOk_empty {s : Form} (h : s.named = false) : nameOk s ⟨#[]⟩ = true := by
  unfold nameOk
  rw [h, ByteArray.toList_eq]
  rfl
theorem shp_opF {o : Int} {l : List Fm} (h0 : isOp o = true) (h1 : (formZ o).least ≤ l.length) (h2 : l.length ≤ (formZ o).most) (hv : 0 ≤ (formZ o).val) (hb : 0 ≤ (formZ o).bound) (hn : (formZ o).named = false) : shapedB (opF o l) = true :=
  shp_of h0 h1 h2 (Int.le_refl _) hv (Int.le_refl _) hb (nameOk_empty hn)
theorem allI_leaf {ins : Bool} {o : Int} (h : o = 1 ∨ o = 2) : allI bareQ ins (opF o []) := by
  rw [allI_iff]
  refine ⟨?_, fun g hg => by cases hg⟩
  rcases h with rfl | rfl
  · exact bare_mk rfl (shp_opF rfl (by decide) (by decide) (by decide) (by decide) rfl) (fun h => by cases h) (fun e => by simp [opF, Fm.op] at e)
  · exact bare_mk rfl (shp_opF rfl (by decide) (by decide) (by decide) (by decide) rfl) (fun h => by cases h) (fun e => by simp [opF, Fm.op] at e)
theorem rep_bare {p : Int} (hp : p = 5 ∨ p = 6) {h : Fm} (hh : allI bareQ false h) : ∀ n, allI bareQ false (repF p n h)
  | 0 => hh
  | n + 1 => by
    have hr := rep_bare hp hh n
    have e8 : allI bareQ false (opF 8 [repF p n h]) := by
      rw [allI_iff]
      refine ⟨bare_mk rfl (shp_opF rfl (Nat.le_refl _) (Nat.le_refl _) (by decide) (by decide) rfl) (fun _ => rfl) (fun e => by simp [opF, Fm.op] at e), fun g hg => ?_⟩
      simp only [opF, Fm.args, List.mem_singleton] at hg
      subst hg
      exact hr
    rw [repF, allI_iff]
    refine ⟨?_, fun g hg => ?_⟩
    · rcases hp with rfl | rfl
      · exact bare_mk rfl (shp_opF rfl (Nat.le_refl _) (by simp [formZ, isOp, formsL, form0, manyN]) (by decide) (by decide) rfl) (fun h => by cases h) (fun e => by simp [opF, Fm.op] at e)
      · exact bare_mk rfl (shp_opF rfl (Nat.le_refl _) (by simp [formZ, isOp, formsL, form0, manyN]) (by decide) (by decide) rfl) (fun h => by cases h) (fun e => by simp [opF, Fm.op] at e)
    · have hpast : (formZ (opF p [h, opF 8 [repF p n h]]).op).past = false := by rcases hp with rfl | rfl <;> rfl
      rw [hpast]
      simp only [opF, Fm.args, List.mem_cons, List.not_mem_nil, or_false] at hg
      rcases hg with rfl | rfl
      · exact hh
      · exact e8
theorem nameOk_plain {s s' : Form} (h : s.named = false) (h' : s'.named = false) {n : ByteArray} (hn : nameOk s n = true) : nameOk s' n = true := by
  unfold nameOk at hn ⊢
  rw [h] at hn
  rw [h']
  exact hn
/-- The forms of a well-formed formula have the nodes of kernels, and are layered if it is. -/
theorem kf_bare (f : Fm) : ∀ (ins : Bool), allI shpQ ins f → allI layQ ins f → ∀ b, allI bareQ ins (kf b f) := by
  refine Fm.ind (P := fun f => ∀ (ins : Bool), allI shpQ ins f → allI layQ ins f → ∀ b, allI bareQ ins (kf b f)) ?_ f
  intro f ih ins hf hy b
  obtain ⟨hs, ha⟩ := allI_iff.1 hf
  obtain ⟨hl0, hla⟩ := allI_iff.1 hy
  have hs : shapedB f = true := hs
  have hl : (!((formZ f.op).future && ins)) = true := hl0
  clear hl0
  have hout := shp_out hs
  have hp := op_parts hs
  obtain ⟨o, n, v, bd, l⟩ := f
  simp only [Fm.op, Fm.name, Fm.val, Fm.bound, Fm.args] at *
  rcases hp with ⟨rfl, rfl⟩ | ⟨rfl, g, rfl⟩ | ⟨ho, g, rfl⟩ | hg
  · have his : allI bareQ ins (.mk 3 n v 0 []) := by
      rw [allI_iff]
      refine ⟨bare_mk rfl (shp_of rfl (Nat.le_refl _) (Nat.le_refl _) hout.2.2.2.1 hout.2.2.2.2.1 (Int.le_refl _) (show (0 : Int) ≤ (formZ 3).bound by decide) hout.2.2.2.2.2.2.2) (fun h => by cases h) (fun e => by simp [Fm.op] at e), fun g hg => by cases hg⟩
    cases b
    · rw [kf_is]; exact his
    · rw [kf_isnot, allI_iff]
      refine ⟨bare_mk rfl (shp_opF rfl (Nat.le_refl _) (Nat.le_refl _) (by decide) (by decide) rfl) (fun h => by cases h) (fun _ => rfl), fun g hg => ?_⟩
      simp only [opF, Fm.args, List.mem_singleton] at hg
      subst hg
      have : (ins || (formZ (opF 4 [isF n v]).op).past) = ins := by cases ins <;> rfl
      rw [this]
      exact his
  · rw [kf_not]
    have h1 := ih g (by simp) _ (ha g (by simp)) (hla g (by simp)) (!b)
    have : (ins || (formZ 4).past) = ins := by cases ins <;> rfl
    rw [this] at h1
    exact h1
  · rw [kf_rep ho]
    have hins : ins = false := by
      have hfu : (formZ o).future = true := by rcases ho with rfl | rfl <;> rfl
      rw [hfu] at hl
      cases ins
      · rfl
      · cases hl
    subst hins
    have h1 := ih g (by simp) _ (ha g (by simp)) (hla g (by simp)) b
    have : (false || (formZ o).past) = false := by rcases ho with rfl | rfl <;> rfl
    rw [this] at h1
    exact rep_bare (by rcases ho with rfl | rfl <;> cases b <;> simp [opOut, dualZ, fullZ]) h1 _
  · have F := op_facts hg b
    rw [kf_gen hg, allI_iff]
    obtain ⟨_, q2, q3, q4, q5, _, _, q8⟩ := hout
    refine ⟨bare_mk F.loose (shp_of ?_ ?_ ?_ (F.vmin v q5 q4) (F.vmax v q5 q4) (Int.le_refl _) F.bmax (nameOk_plain F.named0 F.named q8)) (fun h => ?_) (fun e => absurd e F.ne4), fun x hx => ?_⟩
    · have := F.gen
      unfold genOp at this
      rw [Bool.and_eq_true] at this
      exact this.1
    · simp only [Fm.op, Fm.args, List.length_append, kfs_len]
      exact F.least _ q2 q3
    · simp only [Fm.op, Fm.args, List.length_append, kfs_len]
      exact F.most _ q2 q3
    · rw [F.fut h] at hl
      cases ins
      · rfl
      · cases hl
    · have hpast : (formZ (Fm.mk (opOut b o) n (valOut b o v) 0 (loneL b o ++ kfs (turn0 b o) (turn1 b o) l)).op).past = (formZ o).past := F.past
      rw [hpast]
      simp only [Fm.args, List.mem_append] at hx
      rcases hx with hx | hx
      · rcases F.lones x hx with rfl | rfl
        · exact allI_leaf (.inl rfl)
        · exact allI_leaf (.inr rfl)
      · obtain ⟨g, c, hg', rfl⟩ := mem_kfs hx
        exact ih g hg' _ (ha g hg') (hla g hg') c
/-- The names of a form. -/
theorem names_rep {p : Int} (hp : p = 5 ∨ p = 6) (h : Fm) (x : ByteArray) : ∀ n, x ∈ namesPre (repF p n h) ↔ x ∈ namesPre h
  | 0 => Iff.rfl
  | n + 1 => by
    have ih := names_rep hp h x n
    rw [repF, namesPre_mem]
    have h3 : ¬ ((opF p [h, opF 8 [repF p n h]]).op = 3 ∧ x = (opF p [h, opF 8 [repF p n h]]).name) := by
      rcases hp with rfl | rfl <;> simp [opF, Fm.op]
    have e8 : x ∈ namesPre (opF 8 [repF p n h]) ↔ x ∈ namesPre h := by
      rw [namesPre_mem]
      simp [opF, Fm.op, Fm.args, ih]
    constructor
    · rintro (h | ⟨g, hg, hx⟩)
      · exact absurd h h3
      · simp only [opF, Fm.args, List.mem_cons, List.not_mem_nil, or_false] at hg
        rcases hg with rfl | rfl
        · exact hx
        · exact e8.1 hx
    · intro hx
      exact .inr ⟨h, by simp [opF, Fm.args], hx⟩
theorem kfs_mem_of : ∀ {l : List Fm} {a r : Bool} {g : Fm}, g ∈ l → ∃ b, kf b g ∈ kfs a r l
  | [], _, _, g, h => by cases h
  | f :: l, a, r, g, h => by
    simp only [kfs]
    rcases List.mem_cons.1 h with rfl | h
    · exact ⟨a, by simp⟩
    · obtain ⟨b, hb⟩ := kfs_mem_of (a := r) (r := r) h
      exact ⟨b, by simp [hb]⟩
theorem kf_names (f : Fm) : ∀ (ins : Bool), allI shpQ ins f → ∀ b x, x ∈ namesPre (kf b f) ↔ x ∈ namesPre f := by
  refine Fm.ind (P := fun f => ∀ (ins : Bool), allI shpQ ins f → ∀ b x, x ∈ namesPre (kf b f) ↔ x ∈ namesPre f) ?_ f
  intro f ih ins hf b x
  obtain ⟨hs, ha⟩ := allI_iff.1 hf
  have hs : shapedB f = true := hs
  have hp := op_parts hs
  obtain ⟨o, n, v, bd, l⟩ := f
  simp only [Fm.op, Fm.name, Fm.val, Fm.bound, Fm.args] at *
  rcases hp with ⟨rfl, rfl⟩ | ⟨rfl, g, rfl⟩ | ⟨ho, g, rfl⟩ | hg
  · cases b
    · rw [kf_is, namesPre_mem, namesPre_mem]; simp [Fm.op, Fm.name, Fm.args]
    · rw [kf_isnot, namesPre_mem, namesPre_mem]
      simp only [opF, Fm.op, Fm.name, Fm.args, List.mem_singleton, exists_eq_left, List.not_mem_nil, false_and, exists_false, or_false, true_and]
      rw [namesPre_mem]
      simp [isF, Fm.op, Fm.name, Fm.args]
  · rw [kf_not, ih g (by simp) _ (ha g (by simp)), namesPre_mem (f := .mk 4 n v bd [g])]
    simp [Fm.op, Fm.args]
  · rw [kf_rep ho, names_rep (by rcases ho with rfl | rfl <;> cases b <;> simp [opOut, dualZ, fullZ]), ih g (by simp) _ (ha g (by simp)), namesPre_mem (f := .mk o n v bd [g])]
    rcases ho with rfl | rfl <;> simp [Fm.op, Fm.args]
  · have F := op_facts hg b
    have hn3 : o ≠ 3 := by
      unfold genOp at hg
      simp at hg
      exact hg.2.1.1.1
    rw [kf_gen hg, namesPre_mem, namesPre_mem (f := .mk o n v bd l)]
    simp only [Fm.op, Fm.args, F.ne3, hn3, false_and, false_or, List.mem_append]
    constructor
    · rintro ⟨y, hy | hy, hx⟩
      · rcases F.lones y hy with rfl | rfl <;> (rw [namesPre_mem] at hx; simp [opF, Fm.op, Fm.args] at hx)
      · obtain ⟨g, c, hg', rfl⟩ := mem_kfs hy
        exact ⟨g, hg', (ih g hg' _ (ha g hg') c x).1 hx⟩
    · rintro ⟨g, hg', hx⟩
      obtain ⟨c, hc⟩ := kfs_mem_of (a := turn0 b o) (r := turn1 b o) hg'
      exact ⟨_, .inr hc, (ih g hg' _ (ha g hg') c x).2 hx⟩
/-- The kernel of a formula with the nodes of kernels is itself. -/
theorem kf_self (f : Fm) : ∀ (ins : Bool), allI bareQ ins f → kf false f = f := by
  refine Fm.ind (P := fun f => ∀ (ins : Bool), allI bareQ ins f → kf false f = f) ?_ f
  intro f ih ins hf
  obtain ⟨hq, ha⟩ := allI_iff.1 hf
  unfold bareQ notQ at hq
  simp only [Bool.and_eq_true] at hq
  obtain ⟨⟨⟨hlo, hs⟩, _⟩, hn⟩ := hq
  have hout := shp_out hs
  have hp := op_parts hs
  obtain ⟨o, n, v, bd, l⟩ := f
  simp only [Fm.op, Fm.name, Fm.val, Fm.bound, Fm.args] at *
  obtain ⟨_, _, _, q4, q5, q6, q7, q8⟩ := hout
  rcases hp with ⟨rfl, rfl⟩ | ⟨rfl, g, rfl⟩ | ⟨ho, g, rfl⟩ | hg
  · have : bd = 0 := by have : (formZ 3).bound = 0 := rfl; omega
    rw [kf_is, this]
  · have hg3 : g.op = 3 := by cases g; simpa [Fm.op, Fm.args] using hn
    obtain ⟨hq', _⟩ := allI_iff.1 (ha g (by simp))
    unfold bareQ at hq'
    simp only [Bool.and_eq_true] at hq'
    have hs' := hq'.1.1.2
    have hout' := shp_out hs'
    have hn0 := no_arg (by rw [hg3]; rfl) hs'
    rw [kf_not]
    obtain ⟨o', n', v', b', l'⟩ := g
    simp only [Fm.op, Fm.name, Fm.val, Fm.bound, Fm.args] at *
    subst hg3 hn0
    have hb' : b' = 0 := by have : (formZ 3).bound = 0 := rfl; have := hout'.2.2.2.2.2; omega
    have hb : bd = 0 := by have : (formZ 4).bound = 0 := rfl; omega
    have hv : v = 0 := by have : (formZ 4).val = 0 := rfl; omega
    have hne : n = ⟨#[]⟩ := empty_name q8
    subst hb' hb hv hne
    exact kf_isnot n' v' 0
  · rcases ho with rfl | rfl <;> cases hlo
  · have hmap : kfs false false l = l := by
      rw [kfs_rr]
      conv => rhs; rw [← List.map_id l]
      exact List.map_congr_left fun g hg => ih g hg _ (ha g hg)
    rw [kf_gen hg]
    have hb0 : (formZ o).bound = 0 := by
      rcases gen_cases hg with rfl | rfl | rfl | rfl | rfl | rfl | rfl | rfl | rfl | rfl | rfl | rfl | rfl | rfl | rfl <;> rfl
    have hb : bd = 0 := by omega
    have hfull : opOut false o = o ∧ loneL false o = [] ∧ turn0 false o = false ∧ turn1 false o = false ∧ isLone o = false := by
      rcases gen_cases hg with rfl | rfl | rfl | rfl | rfl | rfl | rfl | rfl | rfl | rfl | rfl | rfl | rfl | rfl | rfl <;> first | (cases hlo; done) | exact ⟨rfl, rfl, rfl, rfl, rfl⟩
    obtain ⟨e1, e2, e3, e4, e5⟩ := hfull
    have ev : valOut false o v = v := by
      unfold valOut
      rw [e5]
      cases isLate o <;> rfl
    rw [e1, e2, e3, e4, hmap, hb, ev]
    rfl
end Go.Proofs.YtdakdpfofgkjoaaGreatDoor
set_option linter.unusedVariables false
set_option linter.unusedSimpArgs false
namespace Go.Proofs.YtdakdpfofgkjoaaGreatDoor
open Go.RowKit Go.Shelf
attribute [local go_sem] cell_alloc_old

theorem own_chg {V : Dom} {w w' : World} {base n size : Nat} {e : TypeId} {v : Value} {xs : List Value} (h : w.ownsRow base e size v n xs) (hc : Chg V w w') (hv : ∀ k, v.ownBlock = some k → ¬ V k) : w'.ownsRow base e size v n xs := by
  refine ⟨h.1, ?_⟩
  rcases h.2 with h0 | ⟨g, cap, cur, rfl, hb, hg, h1, h2, h3, h4⟩
  · exact .inl h0
  · exact .inr ⟨g, cap, cur, rfl, hb, (hc.block g (lt_of_block hg) (hv g rfl)).trans hg, h1, h2, h3, h4⟩
theorem own_set {w : World} {base n size g c : Nat} {e : TypeId} {xs : List Value} (h : w.ownsRow base e size (.slice (some ⟨g, 0, none⟩) n c) n xs) {j : Nat} (hj : j < n * size) (u : Value) : (w.setCell ⟨g, j, none⟩ u).ownsRow base e size (.slice (some ⟨g, 0, none⟩) n c) n (xs.set j u) := by
  refine ⟨by rw [List.length_set]; exact h.1, ?_⟩
  rcases h.2 with ⟨h0, _⟩ | ⟨g', cap, cur, hv, hb, hg, h1, h2, h3, h4⟩
  · cases h0
  · injection hv with e1 e2 e3
    injection e1 with e1
    injection e1 with e1
    subst e1 e3
    refine .inr ⟨g, c, _, rfl, hb, set_block hg u, h1, h2, by simpa using h3, ?_⟩
    rw [Array.toList_setIfInBounds, ← h4, List.take_set]
theorem own_cell {w : World} {base n size g c : Nat} {e : TypeId} {xs : List Value} (h : w.ownsRow base e size (.slice (some ⟨g, 0, none⟩) n c) n xs) {j : Nat} {u : Value} (hu : xs[j]? = some u) : w.cell? ⟨g, j, none⟩ = some u ∧ w.frozen? ⟨g, j, none⟩ = false ∧ g < w.heap.size := by
  rcases h.2 with ⟨h0, _⟩ | ⟨g', cap, cur, hv, hb, hg, h1, h2, h3, h4⟩
  · cases h0
  · injection hv with e1 e2 e3
    injection e1 with e1
    injection e1 with e1
    subst e1 e3
    refine ⟨block_cell hg ?_, block_free hg, lt_of_block hg⟩
    rw [← h4, List.getElem?_take] at hu
    split at hu
    · simpa using hu
    · cases hu
/-- New memory that is no string's. -/
def Nw (base : Nat) (w : World) : Dom := fun k => base ≤ k ∧ Cl w k
theorem Nw.keep {base : Nat} {w w' : World} {D : Dom} (hk : Keeps D w w') (hD : ∀ k, Nw base w k → D k) {k : Nat} (h : Nw base w k) : Nw base w' k := ⟨h.1, h.2.of_eq (hk.block k (hD k h) h.2.lt)⟩
theorem RdA.nw {w w' : World} {base : Nat} {l : List Fm} {A : Option Addr} {c : Nat} {V : Dom} (h : RdA w (Nw base w) l A c) (hc : Chg V w w') (hv : ∀ k, V k → k < base) : RdA w' (Nw base w') l A c := by
  have hk : Keeps (Nw base w) w w' := hc.keeps fun k _ hk hv' => by have := hv k hv'; have := hk.1; omega
  exact (h.keep hk).mono fun k hk' _ => hk'.keep hk (fun _ h => h)
theorem RdA.base {w : World} {base base' : Nat} {l : List Fm} {A : Option Addr} {c : Nat} (h : RdA w (Nw base w) l A c) (hb : base' ≤ base) : RdA w (Nw base' w) l A c := h.mono fun k hk _ => ⟨Nat.le_trans hb hk.1, hk.2⟩
/-- A row of formulas that is the caller's own. -/
structure FRow (w : World) (base : Nat) (A : Option Addr) (c : Nat) (gs : List Fm) (sl : List (Option Addr × Nat)) : Prop where
  own : w.ownsRow base 28 5 (.slice A gs.length c) gs.length (cellsF gs sl)
  len : sl.length = gs.length
  arg : ∀ i, i < gs.length → RdA w (fun k => Nw base w k ∧ (Value.slice A gs.length c).ownBlock ≠ some k) (gs.getD i default).args (sl.getD i (none, 0)).1 (sl.getD i (none, 0)).2
theorem cellsF_len {gs : List Fm} {sl : List (Option Addr × Nat)} (h : sl.length = gs.length) : (cellsF gs sl).length = gs.length * 5 := by
  unfold cellsF
  have : ∀ l : List (Fm × (Option Addr × Nat)), (l.flatMap fun p => fcells p.1 p.2).length = l.length * 5 := by
    intro l
    induction l with
    | nil => rfl
    | cons x l ih =>
      rw [List.flatMap_cons, List.length_append, ih, List.length_cons, Nat.add_mul, Nat.one_mul, Nat.add_comm]
      rfl
  rw [this, List.length_zip, h, Nat.min_self]
theorem cellsF_append {gs ms : List Fm} {sl sm : List (Option Addr × Nat)} (h : sl.length = gs.length) : cellsF (gs ++ ms) (sl ++ sm) = cellsF gs sl ++ cellsF ms sm := by
  unfold cellsF
  rw [List.zip_append h.symm, List.flatMap_append]
section
variable {w w' : World} {base c : Nat} {A : Option Addr} {gs : List Fm} {sl : List (Option Addr × Nat)}
theorem FRow.nil (w : World) (base : Nat) : FRow w base none 0 [] [] := ⟨⟨rfl, .inl ⟨rfl, rfl⟩⟩, rfl, fun i h => absurd h (Nat.not_lt_zero _)⟩
theorem FRow.ge (h : FRow w base A c gs sl) {k : Nat} (hk : (Value.slice A gs.length c).ownBlock = some k) : base ≤ k ∧ k < w.heap.size := by
  rcases h.own.2 with ⟨h0, _⟩ | ⟨g, cap, cur, hv, hb, hg, _⟩
  · rw [h0] at hk; cases hk
  · rw [hv] at hk
    injection hk with hk
    have : g = k := hk
    subst this
    exact ⟨hb, lt_of_block hg⟩
theorem FRow.chg {V : Dom} (h : FRow w base A c gs sl) (hc : Chg V w w') (hv : ∀ k, V k → k < base) : FRow w' base A c gs sl := by
  refine ⟨own_chg h.own hc fun k hk hv' => by have := hv k hv'; have := h.ge hk; omega, h.len, fun i hi => ?_⟩
  have hk : Keeps (fun k => Nw base w k ∧ (Value.slice A gs.length c).ownBlock ≠ some k) w w' := hc.keeps fun k _ hk hv' => by have := hv k hv'; have := hk.1.1; omega
  exact ((h.arg i hi).keep hk).mono fun k hk' _ => ⟨⟨hk'.1.1, hk'.1.2.of_eq (hk.block k hk' hk'.1.2.lt)⟩, hk'.2⟩
theorem FRow.rd (h : FRow w base A c gs sl) (hn : gs.length ≤ 140737488355328) : RdA w (Nw base w) gs A c := by
  refine .mk gs A c sl h.len ?_ fun i hi => (h.arg i hi).mono fun k hk _ => hk.1
  rcases h.own.2 with ⟨hv, h0⟩ | ⟨g, cap, cur, hv, hb, hh, h1, h2, hsz, htk⟩
  · injection hv with hA _ hc
    have : gs = [] := List.eq_nil_of_length_eq_zero h0
    subst this hc
    have hl := h.len
    have : sl = [] := List.eq_nil_of_length_eq_zero hl
    subst this
    exact Rd.nil _ _ _ _ (by omega)
  · injection hv with hA _ hc
    subst hA hc
    refine ⟨⟨h.own.1, hn, h1, h2⟩, fun hn => ⟨g, 0, rfl, ⟨hb, _, _, hh⟩, lt_of_block hh, fun j u hu => ?_⟩⟩
    rw [← htk, List.getElem?_take] at hu
    split at hu
    · simp [World.cell?, hh]; simpa using hu
    · cases hu
theorem sl_none {A : Option Addr} {n c : Nat} (h : Value.slice A n c = .slice none 0 0) : A = none ∧ n = 0 ∧ c = 0 := by
  injection h with h1 h2 h3
  exact ⟨h1, h2, h3⟩
/-- Behind an append (and stores into the row). -/
theorem FRow.app {A' : Option Addr} {c' n : Nat} {ms : List Fm} {sm : List (Option Addr × Nat)} (h : FRow w base A c gs sl) (hg : w.grownBy w' (Value.slice A gs.length c).ownBlock) (hn : n = (gs ++ ms).length)
    (hown : w'.ownsRow base 28 5 (.slice A' n c') n (cellsF gs sl ++ cellsF ms sm)) (hb : (Value.slice A' n c').ownBlock = (Value.slice A gs.length c).ownBlock ∨ (Value.slice A' n c').ownBlock = some w.heap.size) (hsm : sm.length = ms.length)
    (hms : ∀ i, i < ms.length → RdA w (fun k => Nw base w k ∧ (Value.slice A gs.length c).ownBlock ≠ some k) (ms.getD i default).args (sm.getD i (none, 0)).1 (sm.getD i (none, 0)).2) : FRow w' base A' c' (gs ++ ms) (sl ++ sm) := by
  subst hn
  have key : ∀ {l : List Fm} {B : Option Addr} {d : Nat}, RdA w (fun k => Nw base w k ∧ (Value.slice A gs.length c).ownBlock ≠ some k) l B d → RdA w' (fun k => Nw base w' k ∧ (Value.slice A' (gs ++ ms).length c').ownBlock ≠ some k) l B d := fun h1 => by
    have hk : Keeps (fun k => Nw base w k ∧ (Value.slice A gs.length c).ownBlock ≠ some k) w w' := ⟨hg.size, fun k hk hl => hg.block k hl (fun e => hk.2 e.symm)⟩
    have h2 := h1.keep hk
    refine (h1.mono (E := fun k => (Nw base w k ∧ (Value.slice A gs.length c).ownBlock ≠ some k) ∧ k < w.heap.size) fun k hk hl => ⟨hk, hl⟩).keep (w' := w') ⟨hg.size, fun k hk hl => hg.block k hl (fun e => hk.1.2 e.symm)⟩ |>.mono fun k hk' _ => ⟨⟨hk'.1.1.1, hk'.1.1.2.of_eq (hg.block k hk'.2 (fun e => hk'.1.2 e.symm))⟩, fun e => ?_⟩
    rcases hb with hb | hb
    · rw [hb] at e; exact hk'.1.2 e
    · rw [hb] at e
      injection e with e
      have := hk'.2
      omega
  refine ⟨by rw [cellsF_append h.len]; exact hown, by rw [List.length_append, List.length_append, h.len, hsm], fun i hi => ?_⟩
  by_cases hl : i < gs.length
  · have e1 : (gs ++ ms).getD i default = gs.getD i default := by simp [List.getD, List.getElem?_append_left hl]
    have e2 : (sl ++ sm).getD i (none, 0) = sl.getD i (none, 0) := by simp [List.getD, List.getElem?_append_left (show i < sl.length by rw [h.len]; exact hl)]
    rw [e1, e2]
    exact key (h.arg i hl)
  · have hl2 : i - gs.length < ms.length := by rw [List.length_append] at hi; omega
    have e1 : (gs ++ ms).getD i default = ms.getD (i - gs.length) default := by simp [List.getD, List.getElem?_append_right (show gs.length ≤ i by omega)]
    have e2 : (sl ++ sm).getD i (none, 0) = sm.getD (i - gs.length) (none, 0) := by simp [List.getD, List.getElem?_append_right (show sl.length ≤ i by rw [h.len]; omega), h.len]
    rw [e1, e2]
    exact key (hms _ hl2)
end
def zeroF : Fm := .mk 0 ⟨#[]⟩ 0 0 []
theorem cellsF_cons (g : Fm) (gs : List Fm) (s : Option Addr × Nat) (sl : List (Option Addr × Nat)) : cellsF (g :: gs) (s :: sl) = fcells g s ++ cellsF gs sl := rfl
theorem cellsF_set : ∀ (gs : List Fm) (sl : List (Option Addr × Nat)) (i : Nat) (f : Fm) (s : Option Addr × Nat), i < gs.length → sl.length = gs.length →
    (((((cellsF gs sl).set (i * 5) (.int .i64 f.op)).set (i * 5 + 1) (.string f.name)).set (i * 5 + 2) (.int .i64 f.val)).set (i * 5 + 3) (.int .i64 f.bound)).set (i * 5 + 4) (.slice s.1 f.args.length s.2) = cellsF (gs.set i f) (sl.set i s)
  | [], _, i, _, _, h, _ => absurd h (Nat.not_lt_zero _)
  | g :: gs, [], _, _, _, _, h => by cases h
  | g :: gs, t :: sl, 0, f, s, _, _ => rfl
  | g :: gs, t :: sl, i + 1, f, s, h, hl => by
    have ih := cellsF_set gs sl i f s (by simpa using h) (by simpa using hl)
    rw [List.set_cons_succ, List.set_cons_succ, cellsF_cons, cellsF_cons, ← ih]
    have e0 : (fcells g t).length = 5 := rfl
    have e : ∀ r, (i + 1) * 5 + r - 5 = i * 5 + r := fun r => by omega
    have e' : (i + 1) * 5 - 5 = i * 5 := by omega
    rw [List.set_append_right _ _ (by omega), List.set_append_right _ _ (by omega), List.set_append_right _ _ (by omega), List.set_append_right _ _ (by omega), List.set_append_right _ _ (by omega), e0, e, e, e, e, e']
theorem getD_set_eq {α : Type} {l : List α} {i : Nat} {x d : α} (h : i < l.length) : (l.set i x).getD i d = x := by simp [List.getD, h]
theorem getD_set_ne {α : Type} {l : List α} {i j : Nat} {x d : α} (h : i ≠ j) : (l.set i x).getD j d = l.getD j d := by simp [List.getD, List.getElem?_set, h]
/-- An element of the row is stored. -/
theorem FRow.set {w : World} {base g c : Nat} {gs : List Fm} {sl : List (Option Addr × Nat)} (h : FRow w base (some ⟨g, 0, none⟩) c gs sl) {i : Nat} (hi : i < gs.length) (f : Fm) (A : Option Addr) (d : Nat)
    (hf : RdA w (fun k => Nw base w k ∧ k ≠ g) f.args A d) :
    FRow (((((w.setCell ⟨g, i * 5, none⟩ (.int .i64 f.op)).setCell ⟨g, i * 5 + 1, none⟩ (.string f.name)).setCell ⟨g, i * 5 + 2, none⟩ (.int .i64 f.val)).setCell ⟨g, i * 5 + 3, none⟩ (.int .i64 f.bound)).setCell ⟨g, i * 5 + 4, none⟩ (.slice A f.args.length d)) base (some ⟨g, 0, none⟩) c (gs.set i f) (sl.set i (A, d)) := by
  obtain ⟨w', hw'⟩ : ∃ w', w' = (((((w.setCell ⟨g, i * 5, none⟩ (.int .i64 f.op)).setCell ⟨g, i * 5 + 1, none⟩ (.string f.name)).setCell ⟨g, i * 5 + 2, none⟩ (.int .i64 f.val)).setCell ⟨g, i * 5 + 3, none⟩ (.int .i64 f.bound)).setCell ⟨g, i * 5 + 4, none⟩ (.slice A f.args.length d)) := ⟨_, rfl⟩
  have hc : Chg (fun k => k = g) w w' := by
    rw [hw']
    exact (((((Chg.refl (fun k => k = g) w).set ⟨g, _, none⟩ _ fun _ => rfl).set ⟨g, _, none⟩ _ fun _ => rfl).set ⟨g, _, none⟩ _ fun _ => rfl).set ⟨g, _, none⟩ _ fun _ => rfl).set ⟨g, _, none⟩ _ fun _ => rfl
  have hown : w'.ownsRow base 28 5 (.slice (some ⟨g, 0, none⟩) gs.length c) gs.length (cellsF (gs.set i f) (sl.set i (A, d))) := by
    have h0 := own_set (own_set (own_set (own_set (own_set h.own (j := i * 5) (by omega) (.int .i64 f.op)) (j := i * 5 + 1) (by omega) (.string f.name)) (j := i * 5 + 2) (by omega) (.int .i64 f.val)) (j := i * 5 + 3) (by omega) (.int .i64 f.bound)) (j := i * 5 + 4) (by omega) (.slice A f.args.length d)
    rw [cellsF_set gs sl i f (A, d) hi h.len] at h0
    rw [hw']
    exact h0
  rw [← hw']
  clear hw'
  have key : ∀ {l : List Fm} {B : Option Addr} {e : Nat}, RdA w (fun k => Nw base w k ∧ k ≠ g) l B e → RdA w' (fun k => Nw base w' k ∧ (Value.slice (some ⟨g, 0, none⟩) gs.length c).ownBlock ≠ some k) l B e := fun h1 => by
    have hk : Keeps (fun k => Nw base w k ∧ k ≠ g) w w' := hc.keeps fun k _ hk hv => hk.2 hv
    exact (h1.keep hk).mono fun k hk' _ => ⟨⟨hk'.1.1, hk'.1.2.of_eq (hk.block k hk' hk'.1.2.lt)⟩, fun e => by injection e with e; exact hk'.2 e.symm⟩
  refine ⟨by rw [List.length_set]; exact hown, by rw [List.length_set, List.length_set]; exact h.len, fun j hj => ?_⟩
  rw [List.length_set] at hj ⊢
  by_cases e : i = j
  · subst e
    rw [getD_set_eq hi, getD_set_eq (by rw [h.len]; exact hi)]
    exact key hf
  · rw [getD_set_ne e, getD_set_ne e]
    exact key ((h.arg j hj).mono fun k hk _ => ⟨hk.1, fun e => hk.2 (by rw [e]; rfl)⟩)
/-- The builder's block. -/
def BB (w : World) (bb : Nat) (left : Int) (over : Bool) : Prop := w.heap[bb]? = some (.cells #[.int .i64 left, .bool over] 90 (0, 0))
theorem BB.chg {V : Dom} {w w' : World} {bb : Nat} {left : Int} {over : Bool} (h : BB w bb left over) (hc : Chg V w w') (hv : ¬ V bb) : BB w' bb left over := hc.box h hv
theorem BB.below {w w' : World} {bb : Nat} {left : Int} {over : Bool} (h : BB w bb left over) (hb : Below w.heap.size w w') : BB w' bb left over := (hb.block _ (lt_of_block h)).trans h
theorem BB.drawn {w w' : World} {bb : Nat} {left : Int} {over : Bool} (h : BB w bb left over) (hd : Drawn w w') : BB w' bb left over := h.below (hd.below _)
def takeO (left : Int) (over : Bool) (d : Int) : Bool := over || (decide (left - 1 < 0) || decide (d < 1))
set_option maxHeartbeats 1000000 in
theorem take_any (bb : Nat) (left d : Int) (over : Bool) (w : World) (h : BB w bb left over) (h0 : -1000000 ≤ left) (h1 : left ≤ 1000000) :
    Calls Tryz.prog 81 #[.pointer (some ⟨bb, 0, none⟩), .int .i64 d] w fun e w' => e = .returned (.bool (!takeO left over d)) ∧ Chg (fun k => k = bb) w w' ∧ BB w' bb (left - 1) (takeO left over d) := by
  have c0 := block_cell h (i := 0) rfl
  have f0 := block_free h (i := 0)
  have c1 := block_cell h (i := 1) rfl
  have f1 := block_free h (i := 1)
  have hl := lt_of_block h
  have HB := hid h
  have hw : IntKind.i64.wrap (left - 1) = left - 1 := IntWalk.i64_in _ (by omega)
  clear h
  by_cases h2 : left - 1 < 0
  · have d2 : decide (left - 1 < 0) = true := decide_eq_true h2
    have HT := hid (show takeO left over d = true by unfold takeO; rw [d2]; simp)
    go_enter Tryz.func81, Tryz.ntmps81
    go_wp2_with fail
    go_ret
    refine ⟨by rw [HT.out]; rfl, ((Chg.refl (fun k => k = bb) w).set ⟨bb, 0, none⟩ _ fun _ => rfl).set ⟨bb, 1, none⟩ _ fun _ => rfl, ?_⟩
    unfold BB
    rw [set_block (set_block HB.out _), HT.out]
    rfl
  · have d2 : decide (left - 1 < 0) = false := decide_eq_false h2
    by_cases h3 : d < 1
    · have d3 : decide (d < 1) = true := decide_eq_true h3
      have HT := hid (show takeO left over d = true by unfold takeO; rw [d3]; simp)
      go_enter Tryz.func81, Tryz.ntmps81
      go_wp2_with fail
      go_ret
      refine ⟨by rw [HT.out]; rfl, ((Chg.refl (fun k => k = bb) w).set ⟨bb, 0, none⟩ _ fun _ => rfl).set ⟨bb, 1, none⟩ _ fun _ => rfl, ?_⟩
      unfold BB
      rw [set_block (set_block HB.out _), HT.out]
      rfl
    · have d3 : decide (d < 1) = false := decide_eq_false h3
      have HT := hid (show takeO left over d = over by unfold takeO; rw [d2, d3]; simp)
      go_enter Tryz.func81, Tryz.ntmps81
      go_wp2_with fail
      go_ret
      refine ⟨by rw [HT.out]; rfl, (Chg.refl (fun k => k = bb) w).set ⟨bb, 0, none⟩ _ fun _ => rfl, ?_⟩
      unfold BB
      rw [set_block HB.out, HT.out]
      rfl
end Go.Proofs.YtdakdpfofgkjoaaGreatDoor
