/-
  And; two rows of formulas that a call keeps itself; what a goal is made of.
-/
import Derived.Test.YtdakdpfofgkjoaaGreatDoorZ37
import Derived.Test.YtdakdpfofgkjoaaGreatDoorZ28
set_option linter.unusedVariables false
set_option linter.unusedSimpArgs false
namespace Go.Proofs.YtdakdpfofgkjoaaGreatDoor
open Go.RowKit Go.Shelf
attribute [local go_sem] cell_alloc_old

set_option maxRecDepth 100000 in
set_option maxHeartbeats 2000000 in
theorem and_any {D : Dom} {w : World} {A : Option Addr} {n c : Nat} {l : List Fm} (h : RdA w D l A c) (hn : n = l.length) (hz : sizes l ≤ 1000000) (hg : GF w) (hk : GK w) :
    Calls Tryz.prog 31 #[.slice A n c] w fun e w' => ∃ v, e = .returned v ∧ NewF (connZ 5 l) w v w' := by
  subst hn
  have HL := hid h.old
  have HG := hid hg
  have HK := hid hk
  clear h hg hk
  obtain ⟨g, hgg⟩ : ∃ g, connZ 5 l = g := ⟨_, rfl⟩
  have HGG := hid hgg
  rw [hgg]
  clear hgg
  go_enter Tryz.func31, Tryz.ntmps31
  go_upto_region 1 with (fail)
  refine wp_gen fun W hW => ?_
  have HB := hid (show Below w.heap.size w W by rw [hW]; go_grown)
  have HR := hid (show OB W w.heap.size 0 ⟨#[]⟩ 0 0 none 0 0 by rw [hW]; exact at_new _ _ _ rfl)
  have HWS := hid (show W.heap.size = w.heap.size + 1 by rw [hW]; simp)
  have HC := hid (connect_any (op := 5) (HL.out.keep (Keeps.of_below HB.out fun _ h => h)) rfl (.inl rfl) hz (HG.out.below HB.out HG.out.pos) (HK.out.below HB.out HK.out.pos))
  clear hW
  rw [HGG.out] at HC
  go_wp2_with (go_at_call 50; (with_reducible refine HC.out.mono ?_); rintro e w5 ⟨v, rfl, hb5, A5, c5, rfl, ha5⟩; have HA5 := hid ha5; have HB5 := hid hb5; clear ha5; have hr := HR.out.below hb5; obtain ⟨r0, r1, r2, r3, r4, rl⟩ := hr.cells; have p0 := hr.free 0; have p1 := hr.free 1; have p2 := hr.free 2; have p3 := hr.free 3; have p4 := hr.free 4)
  refine bodyPost_gen fun WE hWE => ?_
  have hoE : OB WE w.heap.size g.op g.name g.val g.bound A5 g.args.length c5 := by rw [hWE]; exact set5_OB hr
  have hcE : Chg (fun x => x = w.heap.size) w5 WE := by rw [hWE]; exact set5_chg0 _ _ _ _ _ _ _
  have hb5w := HB.out.trans (HB5.out.mono HB.out.size)
  have hbE : Below w.heap.size w WE := hb5w.trans (hcE.below (B := w.heap.size) (fun x hx h => by omega) hb5w.size)
  have hnew : NewF g w (.agg #[.int .i64 g.op, .string g.name, .int .i64 g.val, .int .i64 g.bound, .slice A5 g.args.length c5]) WE :=
    ⟨hbE, A5, c5, rfl, (HA5.out.nw hcE fun x h => by have : x = w.heap.size := h; have := HWS.out; omega).base HB.out.size⟩
  obtain ⟨y0, y1, y2, y3, y4, yl⟩ := hoE.cells
  clear hWE r0 r1 r2 r3 r4 p0 p1 p2 p3 p4
  exact bodyPost_ret (v := .agg #[.int .i64 g.op, .string g.name, .int .i64 g.val, .int .i64 g.bound, .slice A5 g.args.length c5]) (by simp [results, Tryz.results31, go_sem, y0, y1, y2, y3, y4]) rfl ⟨_, rfl, hnew⟩

/-- Two rows of formulas that are the call's own; what their formulas hold lies in neither. -/
structure TwoRows (w : World) (base : Nat) (A : Option Addr) (c : Nat) (gs : List Fm) (sl : List (Option Addr × Nat)) (B : Option Addr) (d : Nat) (hs : List Fm) (sm : List (Option Addr × Nat)) : Prop where
  own1 : w.ownsRow base 28 5 (.slice A gs.length c) gs.length (cellsF gs sl)
  own2 : w.ownsRow base 28 5 (.slice B hs.length d) hs.length (cellsF hs sm)
  len1 : sl.length = gs.length
  len2 : sm.length = hs.length
  arg1 : ∀ i, i < gs.length → RdA w (fun k => (Value.slice A gs.length c).ownBlock ≠ some k ∧ (Value.slice B hs.length d).ownBlock ≠ some k) (gs.getD i default).args (sl.getD i (none, 0)).1 (sl.getD i (none, 0)).2
  arg2 : ∀ i, i < hs.length → RdA w (fun k => (Value.slice A gs.length c).ownBlock ≠ some k ∧ (Value.slice B hs.length d).ownBlock ≠ some k) (hs.getD i default).args (sm.getD i (none, 0)).1 (sm.getD i (none, 0)).2
  ne : ∀ k, (Value.slice A gs.length c).ownBlock = some k → (Value.slice B hs.length d).ownBlock = some k → False
section
variable {w w' : World} {base c d : Nat} {A B : Option Addr} {gs hs : List Fm} {sl sm : List (Option Addr × Nat)}
theorem TwoRows.nil (w : World) (base : Nat) : TwoRows w base none 0 [] [] none 0 [] [] :=
  ⟨⟨rfl, .inl ⟨rfl, rfl⟩⟩, ⟨rfl, .inl ⟨rfl, rfl⟩⟩, rfl, rfl, (fun i h => absurd h (Nat.not_lt_zero _)), (fun i h => absurd h (Nat.not_lt_zero _)), fun k h => by cases h⟩
theorem TwoRows.swap (h : TwoRows w base A c gs sl B d hs sm) : TwoRows w base B d hs sm A c gs sl :=
  ⟨h.own2, h.own1, h.len2, h.len1, (fun i hi => (h.arg2 i hi).mono fun _ hk _ => ⟨hk.2, hk.1⟩), (fun i hi => (h.arg1 i hi).mono fun _ hk _ => ⟨hk.2, hk.1⟩), fun k h1 h2 => h.ne k h2 h1⟩
theorem RdA.belowD {D : Dom} {l : List Fm} {A : Option Addr} {c : Nat} (h : RdA w D l A c) (hb : Below w.heap.size w w') : RdA w' D l A c :=
  ((h.mono (E := fun k => D k ∧ k < w.heap.size) fun k hk hl => ⟨hk, hl⟩).keep (Keeps.of_below hb fun _ h => h.2)).mono fun _ h _ => h.1
theorem TwoRows.below (h : TwoRows w base A c gs sl B d hs sm) (hb : Below w.heap.size w w') : TwoRows w' base A c gs sl B d hs sm :=
  ⟨own_below h.own1 hb, own_below h.own2 hb, h.len1, h.len2, (fun i hi => (h.arg1 i hi).belowD hb), (fun i hi => (h.arg2 i hi).belowD hb), h.ne⟩
theorem TwoRows.rd1 (h : TwoRows w base A c gs sl B d hs sm) (hn : gs.length ≤ 140737488355328) : RdA w AnyD gs A c :=
  .mk _ _ _ sl h.len1 (Rd.own h.own1 hn fun _ _ => trivial) fun i hi => (h.arg1 i hi).mono fun _ _ _ => trivial
theorem own_grown {w w' : World} {base n size : Nat} {e : TypeId} {v u : Value} {xs : List Value} (h : w.ownsRow base e size v n xs) (hg : w.grownBy w' u.ownBlock) (hne : ∀ k, u.ownBlock = some k → v.ownBlock = some k → False) : w'.ownsRow base e size v n xs := by
  refine ⟨h.1, ?_⟩
  rcases h.2 with h0 | ⟨g, cap, cur, hv, hb, hh, h1, h2, h3, h4⟩
  · exact .inl h0
  · refine .inr ⟨g, cap, cur, hv, hb, ?_, h1, h2, h3, h4⟩
    rw [hg.block g (lt_of_block hh) (fun e => hne g e.symm (by rw [hv]; rfl))]
    exact hh
/-- Behind an append to the first row. -/
theorem TwoRows.app {A' : Option Addr} {c' n : Nat} {f : Fm} {s : Option Addr × Nat} (h : TwoRows w base A c gs sl B d hs sm) (hg : w.grownBy w' (Value.slice A gs.length c).ownBlock) (hn : n = (gs ++ [f]).length)
    (hown : w'.ownsRow base 28 5 (.slice A' n c') n (cellsF gs sl ++ fcells f s)) (hat : (Value.slice A' n c').ownBlock = (Value.slice A gs.length c).ownBlock ∨ (Value.slice A' n c').ownBlock = some w.heap.size)
    (hr : RdA w (fun k => (Value.slice A gs.length c).ownBlock ≠ some k ∧ (Value.slice B hs.length d).ownBlock ≠ some k) f.args s.1 s.2) : TwoRows w' base A' c' (gs ++ [f]) (sl ++ [s]) B d hs sm := by
  subst hn
  have key : ∀ {l : List Fm} {C : Option Addr} {e : Nat}, RdA w (fun k => (Value.slice A gs.length c).ownBlock ≠ some k ∧ (Value.slice B hs.length d).ownBlock ≠ some k) l C e → RdA w' (fun k => (Value.slice A' (gs ++ [f]).length c').ownBlock ≠ some k ∧ (Value.slice B hs.length d).ownBlock ≠ some k) l C e := fun h1 =>
    ((h1.mono (E := fun k => ((Value.slice A gs.length c).ownBlock ≠ some k ∧ (Value.slice B hs.length d).ownBlock ≠ some k) ∧ k < w.heap.size) fun k hk hl => ⟨hk, hl⟩).keep (w' := w') ⟨hg.size, fun k hk hl => hg.block k hl (fun e => hk.1.1 e.symm)⟩).mono fun k hk _ => ⟨fun e => by
      rcases hat with h2 | h2
      · rw [h2] at e; exact hk.1.1 e
      · rw [h2] at e
        injection e with e
        have := hk.2
        omega, hk.1.2⟩
  have e1 : cellsF [f] [s] = fcells f s := by show fcells f s ++ [] = _; rw [List.append_nil]
  refine ⟨by rw [cellsF_append h.len1, e1]; exact hown, own_grown h.own2 hg (fun k h1 h2 => h.ne k h1 h2), by rw [List.length_append, List.length_append, h.len1]; rfl, h.len2, fun i hi => ?_, fun i hi => key (h.arg2 i hi), fun k h1 h2 => ?_⟩
  · by_cases hl : i < gs.length
    · have e1 : (gs ++ [f]).getD i default = gs.getD i default := by simp [List.getD, List.getElem?_append_left hl]
      have e2 : (sl ++ [s]).getD i (none, 0) = sl.getD i (none, 0) := by simp [List.getD, List.getElem?_append_left (show i < sl.length by rw [h.len1]; exact hl)]
      rw [e1, e2]
      exact key (h.arg1 i hl)
    · have hi' : i = gs.length := by rw [List.length_append] at hi; simp at hi; omega
      subst hi'
      have e1 : (gs ++ [f]).getD gs.length default = f := by simp [List.getD]
      have e2 : (sl ++ [s]).getD gs.length (none, 0) = s := by rw [← h.len1]; simp [List.getD]
      rw [e1, e2]
      exact key hr
  · rcases hat with h3 | h3
    · rw [h3] at h1; exact h.ne k h1 h2
    · rw [h3] at h1
      injection h1 with h1
      have := own_ge h.own2 h2
      omega
end
/-! Sizes. -/
theorem sizes_le {l : List Fm} {m : Nat} (h : ∀ f, f ∈ l → f.size ≤ m) : sizes l ≤ l.length * m := by
  induction l with
  | nil => simp [sizes]
  | cons f l ih =>
    rw [sizes, List.length_cons, Nat.add_mul, Nat.one_mul]
    have h1 := h f (by simp)
    have h2 := ih fun g hg => h g (by simp [hg])
    omega
theorem kern_size (f : Fm) : (kernZ f).1.size ≤ 60 := by
  unfold kernZ
  split
  · split
    · rename_i h
      have := (fits_true.1 h).1
      show (kf false f).size ≤ 60
      omega
    · decide
  · decide
theorem notZ_size (f : Fm) : (notZ f).size ≤ 400 := by
  unfold notZ
  split
  · rename_i h
    rw [Bool.and_eq_true, fits_true] at h
    omega
  · decide
theorem connZ_size (op : Int) (l : List Fm) : (connZ op l).size ≤ 400 := by
  unfold connZ
  split
  · split
    · rename_i h
      exact (loose_out h).1
    · decide
  · decide
theorem parts_len (rs : List Rq) : (partsZ rs).length ≤ rs.length := by
  unfold partsZ
  rw [List.length_map]
  exact List.length_filter_le _ _
theorem guars_len (rs : List Rq) : (guarsZ rs).length ≤ rs.length := by
  unfold guarsZ
  rw [List.length_map]
  exact List.length_filter_le _ _
theorem guars_sizes {rs : List Rq} (h : rs.length ≤ 16) : sizes (guarsZ rs) ≤ 1000000 := by
  have h1 := sizes_le (l := guarsZ rs) (m := 60) fun f hf => by
    obtain ⟨r, _, _, rfl⟩ := guars_mem.1 hf
    exact kern_size _
  have h2 := guars_len rs
  have : (guarsZ rs).length * 60 ≤ 16 * 60 := Nat.mul_le_mul_right _ (by omega)
  omega
theorem parts_sizes {rs : List Rq} (h : rs.length ≤ 16) (f : Fm) (hf : f.size ≤ 400) : sizes (partsZ rs ++ [f]) ≤ 1000000 := by
  have h1 := sizes_le (l := partsZ rs ++ [f]) (m := 400) fun g hg => by
    rw [List.mem_append, List.mem_singleton] at hg
    rcases hg with hg | rfl
    · obtain ⟨r, _, _, rfl⟩ := parts_mem.1 hg
      exact notZ_size _
    · exact hf
  have h2 := parts_len rs
  rw [List.length_append] at h1
  have : ((partsZ rs).length + [f].length) * 400 ≤ 17 * 400 := Nat.mul_le_mul_right _ (by simp; omega)
  omega
theorem parts_snoc {rs : List Rq} {i : Nat} (hi : i < rs.length) : partsZ (rs.take (i + 1)) = partsZ (rs.take i) ++ (if (rs.getD i default).kind = 1 then [notZ (kernZ (rs.getD i default).f).1] else []) := by
  rw [take_succ_getD rs default hi, parts_append]
  congr 1
  unfold partsZ
  by_cases h : (rs.getD i default).kind = 1
  · rw [if_pos h, List.filter_cons, if_pos (decide_eq_true h)]; rfl
  · rw [if_neg h, List.filter_cons, if_neg (by rw [decide_eq_false h]; simp)]; rfl
theorem guars_snoc {rs : List Rq} {i : Nat} (hi : i < rs.length) : guarsZ (rs.take (i + 1)) = guarsZ (rs.take i) ++ (if (rs.getD i default).kind = 1 then [] else [(kernZ (rs.getD i default).f).1]) := by
  rw [take_succ_getD rs default hi, guars_append]
  congr 1
  unfold guarsZ
  by_cases h : (rs.getD i default).kind = 1
  · rw [if_pos h, List.filter_cons, if_neg (by rw [decide_eq_true h]; simp)]; rfl
  · rw [if_neg h, List.filter_cons, if_pos (by rw [decide_eq_false h]; rfl)]; rfl
end Go.Proofs.YtdakdpfofgkjoaaGreatDoor
