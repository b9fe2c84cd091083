/-
  Walks of above and find of divisions of numbers.
  Walks of newClasses, copy, unite and accept of divisions of numbers.
  Divisions of states: the walk of above.
  Divisions of states: the walk of find.
-/
import Derived.Test.YtcmhginhfhiolaaZ14
import Derived.Test.YtcmhginhfhiolaaZ03
set_option linter.unusedVariables false
set_option linter.unusedSimpArgs false
namespace Go.Proofs.Ytcmhginhfhiolaa
open Go.RowKit
attribute [local go_sem] cell_alloc_old

theorem int_zero (w : World) : (zeroValue 3).run Try.prog w = .ok (.int .i64 0) w := by kernel_rfl
theorem look_get {l : List (Nat × Nat)} {k : Nat} {w : World} {mb : Nat} (h : MapIs encI w mb (valB encI l)) :
    (Instr.lookup 97 (.map (some mb)) (.int .i64 (k : Int)) true).run Try.prog w = .ok (.tuple #[(match lookB l k with | some v => .int .i64 (v : Int) | none => .int .i64 0), .bool (lookB l k).isSome]) w := by
  have := run_lookup_b int_key (T := 97) (E := 3) (by kernel_rfl) (int_zero w) h k true
  rw [lookB_val] at this
  have e : (Instr.lookup 97 (.map (some mb)) (.int .i64 (k : Int)) true) = (Instr.lookup 97 (.map (some mb)) (encI k) true) := rfl
  rw [e, this]
  rcases lookB l k with _ | v <;> rfl

set_option maxHeartbeats 4000000 in
theorem above_int (c : Option Addr) (ch : Chn) (k : Nat) (w : World) (h : ChainC encI 99 w c ch) :
    Calls Try.prog 62 #[.pointer c, .int .i64 (k : Int)] w fun e w' => e = .returned (.tuple #[.int .i64 (((parC ch k).getD k : Nat) : Int), .bool (parC ch k).isSome]) ∧ w' = w := by
  have H := hid h
  clear h
  go_enter Try.func62, Try.ntmps62
  go_wp2_with fail
  go_loopg [0] (ch.length) (fun gk s wr => ∃ c' ch', s = .pointer c' ∧ ChainC encI 99 w c' ch' ∧ parC ch k = parC ch' k ∧ ch'.length ≤ gk ∧ wr = w)
  case atStart => exact ⟨c, ch, rfl, H.out, rfl, Nat.le_refl _, rfl⟩
  case round =>
    obtain ⟨c', ch', rfl, hc, hp, hg, rfl⟩ := hrel
    have HP := hid hp
    clear hp
    cases ch' with
    | nil =>
      obtain rfl : c' = none := hc
      go_wp2_with fail
      refine bodyPost_ret (v := .tuple #[.int .i64 (k : Int), .bool false]) (by simp [results, Try.results62, go_sem]) rfl ?_
      exact ⟨by rw [HP.out]; rfl, rfl⟩
    | cons p rest =>
      obtain ⟨cb, mb, l⟩ := p
      obtain ⟨rfl, c2, h1, h2, h3, h4, h5⟩ := hc
      have hlk := look_get (k := k) h2
      have H5 := hid h5
      have H2 := hid h2
      have g0 := block_cell h1 (i := 0) rfl
      have g1 := block_cell h1 (i := 1) rfl
      rw [List.length_cons] at hg
      clear h1 h2 h3 h4 h5
      rcases hl : lookB l k with _ | v
      · rw [hl] at hlk
        have HPP := hid (show parC ch k = parC rest k by
          rw [HP.out]
          show (lookB l k).or _ = _
          rw [hl]; rfl)
        clear hl
        go_wp2_with fail
        go_roundg (gk - 1)
        case rel => exact ⟨c2, rest, rfl, H5.out, HPP.out, by omega, rfl⟩
        all_goals omega
      · rw [hl] at hlk
        have HPP := hid (show parC ch k = some v by
          rw [HP.out]
          show (lookB l k).or _ = _
          rw [hl]; rfl)
        clear hl
        go_wp2_with fail
        refine bodyPost_ret (v := .tuple #[.int .i64 (v : Int), .bool true]) (by simp [results, Try.results62, go_sem]) rfl ?_
        exact ⟨by rw [HPP.out]; rfl, rfl⟩

set_option maxHeartbeats 8000000 in
theorem find_int (cb mb k : Nat) (rest : Chn) (f : Nat → Nat) (w : World) (h : Cls encI 99 w cb mb rest f) :
    Calls Try.prog 44 #[.pointer (some ⟨cb, 0, none⟩), .int .i64 (k : Int)] w fun e w' =>
      e = .returned (.int .i64 (f k : Nat)) ∧ Cls encI 99 w' cb mb rest f ∧ Chg (fun b => b = mb) w w' ∧ w'.heap.size = w.heap.size := by
  obtain ⟨l, ht, hc, hr⟩ := h
  have HC := hid hc
  have HR := hid hr
  obtain ⟨ch, hch⟩ : ∃ ch, ch = (cb, mb, l) :: rest := ⟨_, rfl⟩
  rw [← hch] at HC HR
  have HCH := hid hch
  clear hc hr hch
  go_enter Try.func44, Try.ntmps44
  go_wp2_with fail
  refine (above_int _ ch k w HC.out).mono ?_
  rintro e w1 ⟨rfl, rfl⟩
  go_wp2_with fail
  go_loopg [5, 6, 7] (ht k) (fun gk s5 s6 s7 wr => ∃ a : Nat, s5 = .int .i64 (a : Int) ∧ f a = f k ∧ ht a ≤ gk ∧ s6 = .int .i64 (((parC ch a).getD a : Nat) : Int) ∧ s7 = .bool (parC ch a).isSome ∧ wr = w1)
  case atStart => exact ⟨k, rfl, rfl, Nat.le_refl _, rfl, rfl, rfl⟩
  case round =>
    obtain ⟨a, rfl, hfa, hga, rfl, rfl, rfl⟩ := hrel
    have HFA := hid hfa
    clear hfa
    rcases hp : parC ch a with _ | v
    · have hak : f k = a := by rw [← HFA.out]; exact HR.out.top a hp
      have HAK := hid hak
      clear hp hak
      obtain ⟨wz, rfl⟩ : ∃ wz : World, wz = wr := ⟨_, rfl⟩
      go_wp2_with fail
      go_loopg [1, 8, 9] (ht k) (fun gk s1 s8 s9 wr => ∃ (k' : Nat) (l' : List (Nat × Nat)), s1 = .int .i64 (k' : Int) ∧ f k' = a ∧ ht k' ≤ gk ∧ ChainC encI 99 wr (some ⟨cb, 0, none⟩) ((cb, mb, l') :: rest) ∧ Root (parC ((cb, mb, l') :: rest)) f ht ∧ Chg (fun b => b = mb) wz wr ∧ wr.heap.size = wz.heap.size)
      case atStart => exact ⟨k, l, rfl, HAK.out, Nat.le_refl _, by rw [← HCH.out]; exact HC.out, by rw [← HCH.out]; exact HR.out, Chg.refl _ _, rfl⟩
      case round =>
        obtain ⟨k', l', rfl, hfk, hgk, hc2, hr2, hchg, hsz⟩ := hrel
        have HC2 := hid hc2
        have HR2 := hid hr2
        have HCG := hid hchg
        have HSZ := hid hsz
        have HFK := hid hfk
        clear hc2 hr2 hchg hsz hfk
        by_cases hka : k' = a
        · have e1 : ((k' : Int) != (a : Int)) = false := by rw [hka]; simp
          clear hka
          go_wp2_with fail
          go_ret
          exact ⟨ret_int (by rw [HAK.out]), ⟨l', ht, HC2.out, HR2.out⟩, HCG.out, HSZ.out⟩
        · have e1 : ((k' : Int) != (a : Int)) = true := by simp; omega
          have hfne : f k' ≠ k' := by rw [HFK.out]; exact fun e => hka e.symm
          have HFN := hid hfne
          rcases hp : parC ((cb, mb, l') :: rest) k' with _ | v
          · exact absurd (HR2.out.top k' hp) hfne
          · have hup := HR2.out.up k' v hp
            have HUP := hid hup
            have hab := above_int _ _ k' wr HC2.out
            rw [hp] at hab
            have HAB := hid hab
            have hlt := hup.2
            clear hp hup hab hfne hka
            go_wp2_with fail
            refine HAB.out.mono ?_
            rintro e w5 ⟨rfl, rfl⟩
            by_cases hva : v = a
            · have e2 : ((v : Int) != (a : Int)) = false := by rw [hva]; simp
              clear hva
              go_wp2_with fail
              go_roundg (ht v)
              case rel => exact ⟨v, l', rfl, HUP.out.1.trans HFK.out, Nat.le_refl _, HC2.out, HR2.out, HCG.out, HSZ.out⟩
              all_goals omega
            · have e2 : ((v : Int) != (a : Int)) = true := by simp; omega
              clear hva
              obtain ⟨_, c2, h1, h2, h3, h4, h5⟩ := HC2.out
              have g0 := block_cell h1 (i := 0) rfl
              obtain ⟨w4, hrun, hm4, hg4, hs4⟩ := run_update_b int_key (T := 97) (E := 3) (by kernel_rfl) h2 k' (encI a)
              have hrun' : (Instr.mapUpdate 97 (.map (some mb)) (.int .i64 (k' : Int)) (.int .i64 (a : Int))).run Try.prog w5 = .ok () w4 := hrun
              rw [← updB_val] at hm4
              have hc4 := HC2.out.turn hg4 hm4 (updB_nodup h3 _ _)
              have hpu := parC_upd (cb := cb) (mb := mb) (l := l') (rest := rest) k' a
              have hr4 := HR2.out.press HFN.out (by rw [hpu.1, HFK.out]) hpu.2
              have HC4 := hid hc4
              have HR4 := hid hr4
              have HCG4 := hid (HCG.out.grown hg4 (V := fun b => b = mb) (fun b e _ => (Option.some.inj e).symm))
              have HSZ4 := hid (hs4.trans HSZ.out)
              clear h1 h2 h3 h4 h5 hrun hm4 hg4 hs4 hc4 hpu hr4
              go_wp2_with fail
              go_roundg (ht v)
              case rel => exact ⟨v, _, rfl, HUP.out.1.trans HFK.out, Nat.le_refl _, HC4.out, HR4.out, HCG4.out, HSZ4.out⟩
              all_goals omega
    · have hup := HR.out.up a v hp
      have HUP := hid hup
      have hlt := hup.2
      clear hp hup
      go_wp2_with fail
      refine (above_int _ ch v wr HC.out).mono ?_
      rintro e w3 ⟨rfl, rfl⟩
      go_wp2_with fail
      go_roundg (ht v)
      case rel => exact ⟨v, rfl, HUP.out.1.trans HFA.out, Nat.le_refl _, rfl, rfl, rfl⟩
      all_goals omega
end Go.Proofs.Ytcmhginhfhiolaa
set_option linter.unusedVariables false
set_option linter.unusedSimpArgs false
namespace Go.Proofs.Ytcmhginhfhiolaa
open Go.RowKit
attribute [local go_sem] cell_alloc_old

set_option maxHeartbeats 4000000 in
theorem unite_int (cb mb a b : Nat) (rest : Chn) (f : Nat → Nat) (w : World) (h : Cls encI 99 w cb mb rest f) (ha : f a = a) (hb : f b = b) (hne : a ≠ b) :
    Calls Try.prog 70 #[.pointer (some ⟨cb, 0, none⟩), .int .i64 (a : Int), .int .i64 (b : Int)] w fun e w' =>
      e = .returned (.tuple #[]) ∧ Cls encI 99 w' cb mb rest (joinF f a b) ∧ Chg (fun k => k = mb) w w' ∧ w'.heap.size = w.heap.size := by
  obtain ⟨l, ht, hc, hr⟩ := h
  have HC := hid hc
  obtain ⟨_, c2, h1, h2, h3, h4, h5⟩ := hc
  have g0 := block_cell h1 (i := 0) rfl
  obtain ⟨w4, hrun, hm4, hg4, hs4⟩ := run_update_b int_key (T := 97) (E := 3) (by kernel_rfl) h2 b (encI a)
  have hrun' : (Instr.mapUpdate 97 (.map (some mb)) (.int .i64 (b : Int)) (.int .i64 (a : Int))).run Try.prog w = .ok () w4 := hrun
  rw [← updB_val] at hm4
  have hc4 := HC.out.turn hg4 hm4 (updB_nodup h3 _ _)
  have hpu := parC_upd (cb := cb) (mb := mb) (l := l) (rest := rest) b a
  have hr4 := hr.unite ha hb hne hpu.1 hpu.2
  have HC4 := hid hc4
  have HR4 := hid hr4
  have HCG4 := hid ((Chg.refl (fun k => k = mb) w).grown hg4 (fun b e _ => (Option.some.inj e).symm))
  have HS4 := hid hs4
  clear h1 h2 h3 h4 h5 hrun hm4 hg4 hs4 hc4 hpu hr4 hr ha hb hne HC
  go_enter Try.func70, Try.ntmps70
  go_wp2_with fail
  go_end0
  exact ⟨rfl, ⟨_, _, HC4.out, HR4.out⟩, HCG4.out, HS4.out⟩

theorem ChainC.one {enc : Nat → Value} {T : TypeId} {w : World} {cb mb : Nat} {c' : Option Addr} {rest : Chn} (h1 : w.heap[cb]? = some (.cells #[.map (some mb), .pointer c'] T (0, 0))) (h2 : w.heap[mb]? = some (.map #[] 0)) (h3 : ∀ p ∈ rest, p.2.1 ≠ mb) (h4 : ChainC enc T w c' rest) :
    ChainC enc T w (some ⟨cb, 0, none⟩) ((cb, mb, []) :: rest) := ⟨rfl, c', h1, ⟨#[], 0, h2, rfl, rfl⟩, by simp, h3, h4⟩

set_option maxHeartbeats 4000000 in
theorem newClasses_int (w : World) :
    Calls Try.prog 59 #[] w fun e w' => e = .returned (.pointer (some ⟨w.heap.size + 1, 0, none⟩)) ∧ Cls encI 99 w' (w.heap.size + 1) w.heap.size [] id ∧ Below w.heap.size w w' := by
  have hmm := @run_makeMap Try.prog
  go_enter Try.func59, Try.ntmps59
  go_wp2_with fail
  refine bodyPost_gen fun W2 hW2 => ?_
  have hb : Below w.heap.size w W2 := by rw [hW2]; exact ((Below.refl _ _).alloc (Nat.le_refl _) _).alloc (by simp) _
  have h1 : W2.heap[w.heap.size]? = some (.map #[] 0) := by rw [hW2]; exact (Below.heap_alloc _ _ _ (by simp)).trans (heap_alloc_new w _)
  have h2 : W2.heap[w.heap.size + 1]? = some (.cells #[.map (some w.heap.size), .pointer none] 99 (0, 0)) := by
    rw [hW2]
    have := heap_alloc_new (w.alloc (.map #[] 0)) (.cells #[.map (some w.heap.size), .pointer none] 99)
    rwa [World.size_alloc] at this
  have HB := hid hb
  have H1 := hid h1
  have H2 := hid h2
  clear hW2 hb h1 h2 hmm
  go_ret
  exact ⟨rfl, ⟨[], fun _ => 0, ChainC.one (rest := []) H2.out H1.out (fun _ h => by cases h) rfl, ⟨fun _ _ => rfl, fun _ _ h => by cases h⟩⟩, HB.out⟩

set_option maxHeartbeats 4000000 in
theorem copy_int (cb mb : Nat) (f : Nat → Nat) (w : World) (h : Cls encI 99 w cb mb [] f) :
    Calls Try.prog 68 #[.pointer (some ⟨cb, 0, none⟩)] w fun e w' => e = .returned (.pointer (some ⟨w.heap.size + 1, 0, none⟩)) ∧ Below w.heap.size w w' ∧ ∃ l, Cls encI 99 w' (w.heap.size + 1) w.heap.size [(cb, mb, l)] f := by
  have hmm := @run_makeMap Try.prog
  have HC := hid h
  clear h
  go_enter Try.func68, Try.ntmps68
  go_wp2_with fail
  refine bodyPost_gen fun W2 hW2 => ?_
  have hb : Below w.heap.size w W2 := by rw [hW2]; exact ((Below.refl _ _).alloc (Nat.le_refl _) _).alloc (by simp) _
  have h1 : W2.heap[w.heap.size]? = some (.map #[] 0) := by rw [hW2]; exact (Below.heap_alloc _ _ _ (by simp)).trans (heap_alloc_new w _)
  have h2 : W2.heap[w.heap.size + 1]? = some (.cells #[.map (some w.heap.size), .pointer (some ⟨cb, 0, none⟩)] 99 (0, 0)) := by
    rw [hW2]
    have := heap_alloc_new (w.alloc (.map #[] 0)) (.cells #[.map (some w.heap.size), .pointer (some ⟨cb, 0, none⟩)] 99)
    rwa [World.size_alloc] at this
  have HB := hid hb
  have H1 := hid h1
  have H2 := hid h2
  clear hW2 hb h1 h2 hmm
  go_ret
  refine ⟨rfl, HB.out, ?_⟩
  have hlt := HC.out.lt
  obtain ⟨l, ht, hc, hr⟩ := HC.out
  refine ⟨l, [], ht, ChainC.one (rest := [(cb, mb, l)]) H2.out H1.out (fun p hp => ?_) (hc.keep fun b _ hl => HB.out.block b hl), ?_⟩
  · rw [List.mem_singleton] at hp
    subst hp
    show mb ≠ w.heap.size
    omega
  · have e : parC ((w.heap.size + 1, w.heap.size, []) :: [(cb, mb, l)]) = parC [(cb, mb, l)] := by
      funext k
      show (lookB [] k).or _ = _
      rfl
    rw [e]; exact hr

/-- The entries of l2 that are no longer to come have been put over those of l. -/
structure Acc (l2 l l' : List (Nat × Nat)) (left : Nat → Bool) : Prop where
  nd : (l'.map (·.1)).Nodup
  new : ∀ i p, l2[i]? = some p → left i = false → lookB l' p.1 = some p.2
  old : ∀ k, lookB l' k = lookB l k ∨ k ∈ l2.map (·.1)
theorem Acc.step {l2 l l' : List (Nat × Nat)} {left : Nat → Bool} (h : Acc l2 l l' left) (hn : (l2.map (·.1)).Nodup) {i : Nat} {p : Nat × Nat} (hp : l2[i]? = some p) : Acc l2 l (updB l' p.1 p.2) (fun j => left j && !decide (j = i)) := by
  refine ⟨updB_nodup h.nd _ _, fun j q hq hj => ?_, fun k => ?_⟩
  · rw [lookB_upd]
    split
    · rename_i e
      have h1 := lookB_get hn hp
      have h2 := lookB_get hn hq
      rw [e] at h2
      rw [h1] at h2
      exact h2
    · rename_i e
      refine h.new j q hq ?_
      have hji : j ≠ i := by
        rintro rfl
        rw [hp] at hq
        injection hq with hq
        exact e (by rw [hq])
      simpa [hji] using hj
  · rw [lookB_upd]
    split
    · rename_i e
      exact .inr (by rw [e]; exact List.mem_map_of_mem (List.mem_of_getElem? hp))
    · exact h.old k
theorem Acc.done {l2 l l' : List (Nat × Nat)} {left : Nat → Bool} (h : Acc l2 l l' left) (hl : ∀ i, i < l2.length → left i = false) (k : Nat) : lookB l' k = (lookB l2 k).or (lookB l k) := by
  rcases hk : lookB l2 k with _ | v
  · rcases h.old k with h1 | h1
    · rw [h1]; rfl
    · exfalso
      obtain ⟨p, hp, rfl⟩ := List.mem_map.1 h1
      have : ∀ (l : List (Nat × Nat)), p ∈ l → lookB l p.1 ≠ none := fun l => by
        induction l with
        | nil => exact fun h => by cases h
        | cons q l ih =>
          intro hm
          rw [lookB_cons]
          by_cases e : q.1 = p.1
          · rw [if_pos e]; simp
          · rw [if_neg e]
            rcases List.mem_cons.1 hm with rfl | hm
            · exact absurd rfl e
            · exact ih hm
      exact this l2 hp hk
  · obtain ⟨i, hi⟩ := List.getElem?_of_mem (lookB_some hk)
    have := h.new i (k, v) hi (hl i (List.getElem?_eq_some_iff.1 hi).1)
    rw [this]; rfl
theorem valB_at {f : Nat → Value} {l : List (Nat × Nat)} {i : Nat} {p : Nat × Value} (h : (valB f l)[i]? = some p) : ∃ q, l[i]? = some q ∧ p = (q.1, f q.2) := by
  unfold valB at h
  rw [List.getElem?_map] at h
  rcases hq : l[i]? with _ | q
  · rw [hq] at h; cases h
  · rw [hq] at h
    exact ⟨q, rfl, (Option.some.inj h).symm⟩

set_option maxHeartbeats 8000000 in
theorem accept_int (cb mb cb2 mb2 : Nat) (l : List (Nat × Nat)) (f : Nat → Nat) (w : World) (h : Cls encI 99 w cb2 mb2 [(cb, mb, l)] f) :
    Calls Try.prog 71 #[.pointer (some ⟨cb, 0, none⟩), .pointer (some ⟨cb2, 0, none⟩)] w fun e w' => e = .returned (.tuple #[]) ∧ Cls encI 99 w' cb mb [] f ∧ Chg (fun b => b = mb) w w' := by
  obtain ⟨l2, ht, hc, hr⟩ := h
  obtain ⟨_, c2, h1, h2, h3, h4, h5⟩ := hc
  obtain ⟨e2, c3, k1, k2, k3, k4, k5⟩ := h5
  obtain rfl : c3 = none := k5
  subst e2
  have hmne : mb ≠ mb2 := h4 (cb, mb, l) (by simp)
  have hcne := map_ne_cells k2 k1
  have hc2ne := map_ne_cells k2 h1
  have hlt1 := lt_of_block k1
  have hlt2 := k2.lt
  have hlt3 := h2.lt
  obtain ⟨w1, hrun, hrg, hb1, hs1⟩ := run_range_b (P := Try.prog) (K := 3) (T := 97) (E := 3) (by kernel_rfl) h2
  have g2 := block_cell h1 (i := 0) rfl
  have HRG := hid hrg
  have HB1 := hid hb1
  have HH := hid hr
  have HN3 := hid h3
  have HCL := hid k1
  have hMI : MapIs encI w1 mb (valB encI l) := k2.of_block (hb1.block _ hlt2)
  have HMI := hid hMI
  have HK3 := hid k3
  have hs2 : w.heap.size < w1.heap.size := by omega
  clear h1 h2 h3 h4 k1 k2 k3 k4 hr hrg hb1 hMI hs1
  go_enter Try.func71, Try.ntmps71
  go_wp2_with fail
  clear hrun
  go_loopg [4, 5] (cntLeft l2.length (fun _ => true)) (fun gk s4 s5 wr => ∃ l' left, RngIs encI wr mb2 w.heap.size (valB encI l2) left ∧ MapIs encI wr mb (valB encI l') ∧ Acc l2 l l' left ∧ cntLeft l2.length left ≤ gk ∧ Chg (fun b => b = mb ∨ b = w.heap.size) w1 wr)
  case atStart => exact ⟨l, _, HRG.out, HMI.out, ⟨HK3.out, (fun i p _ h => by cases h), fun k => .inl rfl⟩, Nat.le_refl _, Chg.refl _ _⟩
  case round =>
    obtain ⟨l', left, hr1, hm1, ha1, hcl, hch⟩ := hrel
    have HR1 := hid hr1
    have HM1 := hid hm1
    have HA1 := hid ha1
    have HCH := hid hch
    have hb := hch.box ((HB1.out.block cb hlt1).trans HCL.out) (by omega)
    have g1 := block_cell hb (i := 0) rfl
    have HBX := hid hb
    clear hr1 hm1 ha1 hch hb
    rcases run_next_b (P := Try.prog) HR1.out 0 with ⟨hall, hrun⟩ | ⟨i, p, w3, hi, hli, hp, hrun, hr3, hg3, hs3, hen⟩
    · have HD := hid (HA1.out.done (by rw [show (valB encI l2).length = l2.length by simp [valB]] at hall; exact hall))
      clear hall
      go_wp2_with fail
      go_end0
      have hf : parC [(cb, mb, l')] = parC ((cb2, mb2, l2) :: [(cb, mb, l)]) := by
        funext k
        show (lookB l' k).or none = (lookB l2 k).or ((lookB l k).or none)
        rw [HD.out k, Option.or_none, Option.or_none]
      refine ⟨rfl, ⟨l', ht, ⟨rfl, none, HBX.out, HM1.out, HA1.out.nd, (fun _ h => by cases h), rfl⟩, by rw [hf]; exact HH.out⟩, (Chg.of_new HB1.out).trans' HCH.out (fun b hb h => ?_)⟩
      rcases h with h | h
      · exact h
      · omega
    · rw [show (valB encI l2).length = l2.length by simp [valB]] at hi
      obtain ⟨q, hq, rfl⟩ := valB_at hp
      have hm3 : MapIs encI w3 mb (valB encI l') := HM1.out.of_block (hg3.block _ HM1.out.lt (by simp; omega))
      have hb3 := (hg3.block cb (lt_of_block HBX.out) (by simp; omega)).trans HBX.out
      have g3 := block_cell hb3 (i := 0) rfl
      obtain ⟨w4, hrun4, hm4, hg4, hs4⟩ := run_update_b int_key (T := 97) (E := 3) (by kernel_rfl) hm3 q.1 (encI q.2)
      have hrun5 : (Instr.mapUpdate 97 (.map (some mb)) (.int .i64 (q.1 : Int)) (.int .i64 (q.2 : Int))).run Try.prog w3 = .ok () w4 := hrun4
      have hrun' : (Instr.next (.pointer (some ⟨w.heap.size, 0, none⟩)) false 0).run Try.prog wr = .ok (.tuple #[.bool true, .int .i64 (q.1 : Int), .int .i64 (q.2 : Int)]) w3 := hrun
      have hen' : (Instr.entry (.pointer (some ⟨w.heap.size, 0, none⟩))).run Try.prog w3 = .ok (.tuple #[.int .i64 (q.1 : Int), .int .i64 (q.2 : Int)]) w3 := hen
      rw [← updB_val] at hm4
      have HM4 := hid hm4
      have HR4 := hid (hr3.of_block (w' := w4) (hg4.block mb2 hr3.map.lt (by simp; omega)) (hg4.block _ hr3.lt (by simp; omega)))
      have HA4 := hid (HA1.out.step HN3.out hq)
      have HCL4 := hid (cntLeft_less hi hli)
      have HCH4 := hid ((HCH.out.grown hg3 (fun k e _ => .inr (Option.some.inj e).symm)).grown hg4 (fun k e _ => .inl (Option.some.inj e).symm))
      clear hrun hen hr3 hg3 hs3 hm3 hb3 hrun4 hm4 hg4 hs4 hp hq g1
      go_wp2_with fail
      go_roundg (cntLeft l2.length (fun j => left j && !decide (j = i)))
      case rel => exact ⟨_, _, HR4.out, HM4.out, HA4.out, Nat.le_refl _, HCH4.out⟩
      all_goals (have := HCL4.out; omega)
end Go.Proofs.Ytcmhginhfhiolaa
set_option linter.unusedVariables false
set_option linter.unusedSimpArgs false
namespace Go.Proofs.Ytcmhginhfhiolaa
open Go.RowKit
attribute [local go_sem] cell_alloc_old

/-- State q of the first controller has the number 2 q, of the second 2 q + 1. -/
def encS (n : Nat) : Value := .agg #[.bool (n % 2 == 1), .int .i64 ((n / 2 : Nat) : Int)]
theorem encS_split (n : Nat) : ∃ (b : Bool) (q : Nat), encS n = .agg #[.bool b, .int .i64 (q : Int)] := ⟨_, _, rfl⟩
theorem encS_left (q : Nat) : encS (2 * q) = .agg #[.bool false, .int .i64 (q : Int)] := by
  unfold encS
  have h1 : (2 * q % 2 == 1) = false := by simp
  have h2 : 2 * q / 2 = q := by omega
  rw [h1, h2]
theorem encS_right (q : Nat) : encS (2 * q + 1) = .agg #[.bool true, .int .i64 (q : Int)] := by
  unfold encS
  have h1 : ((2 * q + 1) % 2 == 1) = true := by rw [beq_iff_eq]; omega
  have h2 : (2 * q + 1) / 2 = q := by omega
  rw [h1, h2]
theorem state_check (e : Bool) (w : World) (b : Bool) (q : Int) : (Instr.checkKey e 10000 56 (.agg #[.bool b, .int .i64 q])).run Try.prog w = .ok () w := by kernel_rfl
theorem state_equal0 (w : World) (b b' : Bool) (q q' : Int) : (Op.equal 56 (.agg #[.bool b, .int .i64 q]) (.agg #[.bool b', .int .i64 q'])).run Try.prog w = .ok (decide (b = b' ∧ q = q')) w := by
  have u3 := Try.underlying3
  have a3 := Try.isAgg3
  have z3 := Try.sizeOf3
  have u4 := Try.underlying4
  have a4 := Try.isAgg4
  have z4 := Try.sizeOf4
  have hS : Try.prog.underlying 56 = some (.struct (Try.prog.fieldsOf 56)) := by kernel_rfl
  have hp : Try.prog.stoodInHeld 56 = false := by kernel_rfl
  unfold Op.equal Op.maxDepth
  rw [show (10000 : Nat) = 9999 + 1 from rfl, run_equalIn_agg w 9999 56 _ _ hS hp]
  simp only [Program.fieldsOf, Try.underlying56]
  go_simp
  by_cases h1 : b = b' <;> by_cases h2 : q = q' <;> simp [h1, h2]
theorem encS_inj (x y : Nat) : (((x % 2 == 1) = (y % 2 == 1)) ∧ ((x / 2 : Nat) : Int) = ((y / 2 : Nat) : Int)) ↔ x = y := by
  constructor
  · rintro ⟨h1, h2⟩
    have h3 : x / 2 = y / 2 := by omega
    have hx := Nat.mod_two_eq_zero_or_one x
    have hy := Nat.mod_two_eq_zero_or_one y
    rcases hx with hx | hx <;> rcases hy with hy | hy
    · omega
    · rw [hx, hy] at h1; cases h1
    · rw [hx, hy] at h1; cases h1
    · omega
  · rintro rfl; exact ⟨rfl, rfl⟩
theorem state_equal (w : World) (x y : Nat) : (Op.equal 56 (encS x) (encS y)).run Try.prog w = .ok (decide (x = y)) w := by
  unfold encS
  rw [state_equal0]
  congr 1
  rw [Bool.eq_iff_iff, decide_eq_true_eq, decide_eq_true_eq]
  exact encS_inj x y
theorem state_key : KeyT Try.prog 56 encS :=
  .of_asking (fun e w k => state_check e w _ _) state_equal Try.underlying56 (fun a b => by rfl) (fun k => by unfold encS; simp [Instr.sameBits])
theorem state_zero (w : World) : (zeroValue 56).run Try.prog w = .ok (.agg #[.bool false, .int .i64 0]) w := by kernel_rfl
theorem look_state {l : List (Nat × Nat)} {k : Nat} {w : World} {mb : Nat} (h : MapIs encS w mb (valB encS l)) :
    (Instr.lookup 84 (.map (some mb)) (encS k) true).run Try.prog w = .ok (.tuple #[(match lookB l k with | some v => encS v | none => .agg #[.bool false, .int .i64 0]), .bool (lookB l k).isSome]) w := by
  have := run_lookup_b state_key (T := 84) (E := 56) (by kernel_rfl) (state_zero w) h k true
  rw [lookB_val] at this
  rw [this]
  rcases lookB l k with _ | v <;> rfl

theorem exit_gen {Q : Exit → Act → World → Prop} {e : Exit} {a : Act} {w : World} (h : ∀ W, W = w → Q e a W) : Q e a w := h w rfl

def AboveSays (r : Option Nat) (k : Nat) (w : World) (e : Ending) (w' : World) : Prop := e = .returned (.tuple #[encS (r.getD k), .bool r.isSome]) ∧ Below w.heap.size w w'

set_option maxRecDepth 100000 in
set_option maxHeartbeats 4000000 in
theorem above_state (c : Option Addr) (ch : Chn) (k : Nat) (w : World) (h : ChainC encS 86 w c ch) :
    Calls Try.prog 55 #[.pointer c, encS k] w fun e w' => AboveSays (parC ch k) k w e w' := by
  have H := hid h
  have hcl := h.lt
  have HLT := hid hcl
  clear h hcl
  obtain ⟨b, q, hk⟩ := encS_split k
  have HK := hid hk
  rw [hk]
  clear hk
  go_enter Try.func55, Try.ntmps55
  go_wp2_with fail
  refine wp_gen fun W1 hW1 => ?_
  have hb1 : Below w.heap.size w W1 := by rw [hW1]; go_grown
  have hx1 : W1.heap[w.heap.size]? = some (.cells #[.bool b, .int .i64 (q : Int)] 56 (0, 0)) := by
    rw [hW1]; (repeat (first | (refine at_new _ _ _ ?_; (simp only [World.size_alloc]; done)) | (refine (at_old _ _ _ ?_).trans ?_; (simp only [World.size_alloc]; omega))))
  have hr1 : W1.heap[w.heap.size + 1]? = some (.cells #[.bool false, .int .i64 0] 56 (0, 0)) := by
    rw [hW1]; (repeat (first | (refine at_new _ _ _ ?_; (simp only [World.size_alloc]; done)) | (refine (at_old _ _ _ ?_).trans ?_; (simp only [World.size_alloc]; omega))))
  have HB1 := hid hb1
  have HX1 := hid hx1
  have HR1 := hid hr1
  have hs1 : w.heap.size + 1 < W1.heap.size := lt_of_block hr1
  clear hW1 hb1 hx1 hr1
  go_loopg [0] (ch.length) (fun gk s wr => ∃ c' ch', s = .pointer c' ∧ ChainC encS 86 wr c' ch' ∧ (∀ x, InChain ch' x → x < w.heap.size) ∧ parC ch k = parC ch' k ∧ ch'.length ≤ gk ∧ Below W1.heap.size W1 wr)
  case atStart => exact ⟨c, ch, rfl, H.out.keep (fun b hb _ => HB1.out.block b (HLT.out b hb)), HLT.out, rfl, Nat.le_refl _, Below.refl _ _⟩
  case round =>
    obtain ⟨c', ch', rfl, hc, hil, hp, hg, hbr⟩ := hrel
    have HP := hid hp
    have HBR := hid hbr
    have HIL := hid hil
    have HXR := hid ((hbr.block _ (lt_of_block HX1.out)).trans HX1.out)
    have HRR := hid ((hbr.block _ (lt_of_block HR1.out)).trans HR1.out)
    have x0 := block_cell HXR.out (i := 0) rfl
    have x1 := block_cell HXR.out (i := 1) rfl
    have hszr := hbr.size
    clear hp hbr hil
    cases ch' with
    | nil =>
      obtain rfl : c' = none := hc
      have q0 := block_cell HRR.out (i := 0) rfl
      have q1 := block_cell HRR.out (i := 1) rfl
      have z0 := block_free HRR.out (i := 0)
      have z1 := block_free HRR.out (i := 1)
      go_wp2_with fail
      refine bodyPost_gen fun W2 hW2 => ?_
      have hb : W2.heap[w.heap.size + 1]? = some (.cells #[.bool b, .int .i64 (q : Int)] 56 (0, 0)) := by
        rw [hW2, set_block (set_block HRR.out _) _]; rfl
      have p0 := block_cell hb (i := 0) rfl
      have p1 := block_cell hb (i := 1) rfl
      have hbw : Below w.heap.size w W2 := by
        rw [hW2]
        exact ((HB1.out.trans (HBR.out.mono (by omega))).setCell (p := ⟨w.heap.size + 1, 0, none⟩) (Nat.le_succ _) _).setCell (p := ⟨w.heap.size + 1, 1, none⟩) (Nat.le_succ _) _
      have HBW := hid hbw
      clear hW2 hb hbw q0 q1 z0 z1
      exact bodyPost_ret (v := .tuple #[.agg #[.bool b, .int .i64 (q : Int)], .bool false]) (by simp [results, Try.results55, go_sem, p0, p1]) rfl ⟨by rw [HP.out, ← HK.out]; rfl, HBW.out⟩
    | cons p rest =>
      obtain ⟨cb, mb, l⟩ := p
      have hcbl := HIL.out cb (inChain1 cb mb l rest)
      have hmbl := HIL.out mb (inChain2 cb mb l rest)
      obtain ⟨rfl, c2, h1, h2, h3, h4, h5⟩ := hc
      have H5 := hid h5
      have H2 := hid h2
      have g0 := block_cell h1 (i := 0) rfl
      have g1 := block_cell h1 (i := 1) rfl
      have hlk : (Instr.lookup 84 (.map (some mb)) (.agg #[.bool b, .int .i64 (q : Int)]) true).run Try.prog wr.drew = .ok (.tuple #[(match lookB l k with | some v => encS v | none => .agg #[.bool false, .int .i64 0]), .bool (lookB l k).isSome]) wr.drew := by
        rw [← HK.out]
        exact look_state (H2.out.of_block rfl)
      have hlk2 : ∀ o, (Instr.lookup 84 (.map (some mb)) (.agg #[.bool b, .int .i64 (q : Int)]) true).run Try.prog (wr.alloc o).drew = .ok (.tuple #[(match lookB l k with | some v => encS v | none => .agg #[.bool false, .int .i64 0]), .bool (lookB l k).isSome]) (wr.alloc o).drew := fun o => by
        rw [← HK.out]
        exact look_state (H2.out.of_block (Below.heap_alloc wr o mb (by omega)))
      rw [List.length_cons] at hg
      have HIL2 := hid (fun x (hx : InChain rest x) => HIL.out x (inChain3 hx))
      have hcbr : cb < wr.heap.size := by omega
      have hwr0 : w.heap.size < wr.heap.size := by omega
      clear h1 h2 h3 h4 h5
      rcases hl : lookB l k with _ | v
      · rw [hl] at hlk hlk2
        have HPP := hid (show parC ch k = parC rest k by
          rw [HP.out]
          show (lookB l k).or _ = _
          rw [hl]; rfl)
        clear hl
        go_wp2_with fail
        go_region_held3 (fun w' => w'.cell? ⟨cb, 0, none⟩ = some (.map (some mb)) ∧ w'.cell? ⟨w.heap.size, 0, none⟩ = some (.bool b) ∧ w'.cell? ⟨w.heap.size, 1, none⟩ = some (.int .i64 (q : Int))) (go_keep) (fail)
        all_goals
          refine exit_gen fun W2 hW2 => ?_
          have hb2 : Below wr.heap.size wr W2 := by rw [hW2]; go_grown
          have g2 := (hb2.cell (p := ⟨cb, 1, none⟩) hcbr).trans g1
          have HB2 := hid hb2
          clear hW2 hb2 g0 g1 x0 x1 hlk hlk2
          go_wp2_with fail
          go_roundg (gk - 1)
          case rel => exact ⟨c2, rest, rfl, H5.out.keep (fun x hx hl => HB2.out.block x hl), HIL2.out, HPP.out, by omega, HBR.out.trans (HB2.out.mono hszr)⟩
          all_goals omega
      · obtain ⟨b2, q2, hv⟩ := encS_split v
        rw [hl] at hlk hlk2
        simp only [hv] at hlk hlk2
        have HV := hid hv
        have HPP := hid (show parC ch k = some v by
          rw [HP.out]
          show (lookB l k).or _ = _
          rw [hl]; rfl)
        clear hl hv
        go_wp2_with fail
        go_region_held3 (fun w' => w'.cell? ⟨cb, 0, none⟩ = some (.map (some mb)) ∧ w'.cell? ⟨w.heap.size, 0, none⟩ = some (.bool b) ∧ w'.cell? ⟨w.heap.size, 1, none⟩ = some (.int .i64 (q : Int))) (go_keep) (fail)
        all_goals
          refine exit_gen fun W2 hW2 => ?_
          have hb2 : Below wr.heap.size wr W2 := by rw [hW2]; go_grown
          have hn0 : W2.cell? ⟨wr.heap.size, 0, none⟩ = some (.bool b2) := by rw [hW2]; go_simp
          have hn1 : W2.cell? ⟨wr.heap.size, 1, none⟩ = some (.int .i64 (q2 : Int)) := by rw [hW2]; go_simp
          have hrr := (hb2.block _ (lt_of_block HRR.out)).trans HRR.out
          have q0 := block_cell hrr (i := 0) rfl
          have q1 := block_cell hrr (i := 1) rfl
          have z0 := block_free hrr (i := 0)
          have z1 := block_free hrr (i := 1)
          have HB2 := hid hb2
          clear hW2 hb2 g0 g1 x0 x1 hlk hlk2 hrr
          go_wp2_with fail
          refine bodyPost_gen fun W3 hW3 => ?_
          have hb : W3.heap[w.heap.size + 1]? = some (.cells #[.bool b2, .int .i64 (q2 : Int)] 56 (0, 0)) := by
            rw [hW3, set_block (set_block ((HB2.out.block _ (lt_of_block HRR.out)).trans HRR.out) _) _]; rfl
          have p0 := block_cell hb (i := 0) rfl
          have p1 := block_cell hb (i := 1) rfl
          have hbw : Below w.heap.size w W3 := by
            rw [hW3]
            exact (((HB1.out.trans (HBR.out.mono (by omega))).trans (HB2.out.mono (by omega))).setCell (p := ⟨w.heap.size + 1, 0, none⟩) (Nat.le_succ _) _).setCell (p := ⟨w.heap.size + 1, 1, none⟩) (Nat.le_succ _) _
          have HBW := hid hbw
          clear hW3 hb hbw q0 q1 z0 z1 hn0 hn1
          exact bodyPost_ret (v := .tuple #[.agg #[.bool b2, .int .i64 (q2 : Int)], .bool true]) (by simp [results, Try.results55, go_sem, p0, p1]) rfl ⟨by rw [HPP.out]; show _ = Ending.returned (.tuple #[encS v, .bool true]); rw [HV.out], HBW.out⟩
end Go.Proofs.Ytcmhginhfhiolaa
set_option linter.unusedVariables false
set_option linter.unusedSimpArgs false
namespace Go.Proofs.Ytcmhginhfhiolaa
open Go.RowKit
attribute [local go_sem] cell_alloc_old

def arrS (n : Nat) : Array Value := #[.bool (n % 2 == 1), .int .i64 ((n / 2 : Nat) : Int)]
theorem arrS_split (n : Nat) : ∃ (b : Bool) (q : Nat), arrS n = #[.bool b, .int .i64 (q : Int)] ∧ encS n = .agg #[.bool b, .int .i64 (q : Int)] := ⟨_, _, rfl, rfl⟩
theorem state_eql (x y : Nat) (w : World) : (binOp .eql 56 (encS x) (encS y)).run Try.prog w = .ok (.bool (decide (x = y))) w := by
  have := state_equal w x y
  unfold encS at this ⊢
  simp only [binOp]
  rw [Sem.run_bind, this]; rfl
theorem state_neq (x y : Nat) (w : World) : (binOp .neq 56 (encS x) (encS y)).run Try.prog w = .ok (.bool (!decide (x = y))) w := by
  have := state_equal w x y
  unfold encS at this ⊢
  simp only [binOp]
  rw [Sem.run_bind, this]; rfl
theorem set2 {W : World} {b : Nat} {T : TypeId} {x0 x1 : Value} (h : W.heap[b]? = some (.cells #[x0, x1] T (0, 0))) (v0 v1 : Value) :
    ((W.setCell ⟨b, 0, none⟩ v0).setCell ⟨b, 1, none⟩ v1).heap[b]? = some (.cells #[v0, v1] T (0, 0)) ∧ (∀ k, k ≠ b → ((W.setCell ⟨b, 0, none⟩ v0).setCell ⟨b, 1, none⟩ v1).heap[k]? = W.heap[k]?) ∧ ((W.setCell ⟨b, 0, none⟩ v0).setCell ⟨b, 1, none⟩ v1).heap.size = W.heap.size ∧
    Chg (fun a => a = b) W ((W.setCell ⟨b, 0, none⟩ v0).setCell ⟨b, 1, none⟩ v1) := by
  refine ⟨by rw [set_block (set_block h _) _]; rfl, fun k hk => by rw [Below.heap_setCell _ _ _ _ hk, Below.heap_setCell _ _ _ _ hk], by simp, ?_⟩
  exact ((Chg.refl (fun a => a = b) W).set ⟨b, 0, none⟩ v0 (fun _ => rfl)).set ⟨b, 1, none⟩ v1 (fun _ => rfl)

theorem inCh2 {cb mb b n : Nat} {l : List (Nat × Nat)} (h : InChain [(cb, mb, l)] b) (h1 : cb < n) (h2 : mb < n) : b < n := by
  obtain ⟨p, hp, hb⟩ := h
  rw [List.mem_singleton] at hp
  subst hp
  rcases hb with rfl | rfl
  · exact h1
  · exact h2
/-- What find returns. -/
def FindSays (T : TypeId) (cb mb : Nat) (f : Nat → Nat) (k : Nat) (w : World) (e : Ending) (w' : World) : Prop := e = .returned (encS (f k)) ∧ Cls encS T w' cb mb [] f ∧ Chg (fun b => b = mb) w w'

set_option maxRecDepth 100000 in
set_option maxHeartbeats 8000000 in
theorem find_state (cb mb k : Nat) (f : Nat → Nat) (w : World) (h : Cls encS 86 w cb mb [] f) :
    Calls Try.prog 36 #[.pointer (some ⟨cb, 0, none⟩), encS k] w fun e w' => FindSays 86 cb mb f k w e w' := by
  have hcbl := h.lt
  obtain ⟨l, ht, hc, hr⟩ := h
  have HC := hid hc
  have HR := hid hr
  have HLT := hid hc.lt
  obtain ⟨ch, hch⟩ : ∃ ch, ch = [(cb, mb, l)] := ⟨_, rfl⟩
  rw [← hch] at HC HR HLT
  have HCH := hid hch
  clear hc hr hch
  obtain ⟨bk, qk, hk1, hk2⟩ := arrS_split k
  have HK1 := hid hk1
  have HK2 := hid hk2
  rw [hk2]
  clear hk1 hk2
  go_enter Try.func36, Try.ntmps36
  go_upto_region 2 with (fail)
  refine wp_gen fun W1 hW1 => ?_
  have hb1 : Below w.heap.size w W1 := by rw [hW1]; go_grown
  have hx1 : W1.heap[w.heap.size]? = some (.cells (arrS k) 56 (0, 0)) := by
    rw [HK1.out, hW1]; (repeat (first | (refine at_new _ _ _ ?_; (simp only [World.size_alloc]; done)) | (refine (at_old _ _ _ ?_).trans ?_; (simp only [World.size_alloc]; omega))))
  have hr1 : W1.heap[w.heap.size + 1]? = some (.cells #[.bool false, .int .i64 0] 56 (0, 0)) := by
    rw [hW1]; (repeat (first | (refine at_new _ _ _ ?_; (simp only [World.size_alloc]; done)) | (refine (at_old _ _ _ ?_).trans ?_; (simp only [World.size_alloc]; omega))))
  have hf1 : W1.heap[w.heap.size + 1 + 1]? = some (.cells (arrS k) 56 (0, 0)) := by
    rw [HK1.out, hW1]; (repeat (first | (refine at_new _ _ _ ?_; (simp only [World.size_alloc]; done)) | (refine (at_old _ _ _ ?_).trans ?_; (simp only [World.size_alloc]; omega))))
  have HB1 := hid hb1
  have HX1 := hid hx1
  have HR1 := hid hr1
  have HF1 := hid hf1
  have hs1 : w.heap.size + 1 + 1 < W1.heap.size := lt_of_block hf1
  rw [HK1.out] at hf1
  have x0 := block_cell hf1 (i := 0) rfl
  have x1 := block_cell hf1 (i := 1) rfl
  have hcW1 : ChainC encS 86 W1 (some ⟨cb, 0, none⟩) ch := HC.out.keep fun b hb _ => hb1.block b (HLT.out b hb)
  have HCW1 := hid hcW1
  have hab : Calls Try.prog 55 #[.pointer (some ⟨cb, 0, none⟩), .agg #[.bool bk, .int .i64 (qk : Int)]] W1 fun e w' => AboveSays (parC ch k) k W1 e w' := by
    rw [← HK2.out]; exact above_state _ ch k W1 hcW1
  have HAB := hid hab
  clear hW1 hb1 hx1 hr1 hf1 hcW1 hab
  go_wp2_with fail
  refine HAB.out.mono ?_
  rintro e w2 ⟨rfl, hb2⟩
  obtain ⟨b0, q0, h01, h02⟩ := arrS_split ((parC ch k).getD k)
  rw [h02]
  have H01 := hid h01
  have HB2 := hid hb2
  have hs2 := hb2.size
  clear hb2 h01 h02 x0 x1
  go_wp2_with fail
  refine wp_gen fun W3 hW3 => ?_
  have hb3 : Below w2.heap.size w2 W3 := by rw [hW3]; go_grown
  have ht3 : W3.heap[w2.heap.size]? = some (.cells (arrS ((parC ch k).getD k)) 56 (0, 0)) := by rw [H01.out, hW3]; exact heap_alloc_new w2 _
  have hb13 := HB2.out.trans (hb3.mono hs2)
  have HB13 := hid hb13
  have HT3 := hid ht3
  have HX3 := hid ((hb13.block _ (lt_of_block HX1.out)).trans HX1.out)
  have HR3 := hid ((hb13.block _ (lt_of_block HR1.out)).trans HR1.out)
  have HF3 := hid ((hb13.block _ (lt_of_block HF1.out)).trans HF1.out)
  have HB3 := hid (HB1.out.trans (hb13.mono HB1.out.size))
  have hs3 := hb3.size
  have hlt3 : w2.heap.size < W3.heap.size := lt_of_block ht3
  clear hW3 hb3 ht3 hb13
  go_loopg [6, 7] (ht k) (fun gk s6 s7 wr => ∃ (a tb : Nat), f a = f k ∧ ht a ≤ gk ∧ s6 = .pointer (some ⟨tb, 0, none⟩) ∧ s7 = .bool (parC ch a).isSome ∧ w.heap.size + 1 + 1 < tb ∧ Below w.heap.size w wr ∧
    wr.heap[w.heap.size]? = some (.cells (arrS k) 56 (0, 0)) ∧ wr.heap[w.heap.size + 1]? = some (.cells #[.bool false, .int .i64 0] 56 (0, 0)) ∧ wr.heap[w.heap.size + 1 + 1]? = some (.cells (arrS a) 56 (0, 0)) ∧
    wr.heap[tb]? = some (.cells (arrS ((parC ch a).getD a)) 56 (0, 0)))
  case atStart => exact ⟨k, w2.heap.size, rfl, Nat.le_refl _, rfl, rfl, by omega, HB3.out, HX3.out, HR3.out, HF3.out, HT3.out⟩
  case round =>
    obtain ⟨a, tb, hfa, hga, rfl, rfl, htb, hbr, hx, hr, hf, ht0⟩ := hrel
    have HFA := hid hfa
    have HB := hid hbr
    have HX := hid hx
    have HR' := hid hr
    have HF := hid hf
    have HT := hid ht0
    have hsz := hbr.size
    have htl := lt_of_block ht0
    clear hfa hbr hx hr hf ht0
    rcases hp : parC ch a with _ | v
    · have hak : f k = a := by rw [← HFA.out]; exact HR.out.top a hp
      have HAK := hid hak
      clear hp hak HAB
      obtain ⟨wz, rfl⟩ : ∃ wz : World, wz = wr := ⟨_, rfl⟩
      go_wp2_with fail
      go_loopg [8, 9] (ht k) (fun gk s8 s9 wr => ∃ (k' : Nat) (l' : List (Nat × Nat)), f k' = a ∧ ht k' ≤ gk ∧ ChainC encS 86 wr (some ⟨cb, 0, none⟩) [(cb, mb, l')] ∧ Root (parC [(cb, mb, l')]) f ht ∧ Chg (fun b => b = mb ∨ w.heap.size ≤ b) w wr ∧
        wr.heap[w.heap.size]? = some (.cells (arrS k') 56 (0, 0)) ∧ wr.heap[w.heap.size + 1]? = some (.cells #[.bool false, .int .i64 0] 56 (0, 0)) ∧ wr.heap[w.heap.size + 1 + 1]? = some (.cells (arrS a) 56 (0, 0)))
      case atStart => exact ⟨k, l, HAK.out, Nat.le_refl _, by rw [← HCH.out]; exact HC.out.keep (fun b hb _ => HB.out.block b (HLT.out b hb)), by rw [← HCH.out]; exact HR.out, Chg.of_new HB.out, HX.out, HR'.out, HF.out⟩
      case round =>
        clear HX HR' HF HT HB
        obtain ⟨k', l', hfk, hgk, hc2, hr2, hchg, hx, hr, hf⟩ := hrel
        have HC2 := hid hc2
        have HR2 := hid hr2
        have HCG := hid hchg
        have HFK := hid hfk
        have HX := hid hx
        have HR' := hid hr
        have HF := hid hf
        have hszr := hchg.size
        have hfl := lt_of_block hf
        obtain ⟨bk', qk', hk1', hk2'⟩ := arrS_split k'
        obtain ⟨ba, qa, ha1, ha2⟩ := arrS_split a
        have HK1' := hid hk1'
        have HK2' := hid hk2'
        have HA1 := hid ha1
        have HA2 := hid ha2
        rw [hk1'] at hx
        rw [ha1] at hf
        have x0 := block_cell hx (i := 0) rfl
        have x1 := block_cell hx (i := 1) rfl
        have f0 := block_cell hf (i := 0) rfl
        have f1 := block_cell hf (i := 1) rfl
        have hcmp := state_neq k' a
        rw [hk2', ha2] at hcmp
        clear hfk hc2 hr2 hchg hx hr hf hk1' hk2' ha1 ha2
        by_cases hka : k' = a
        · rw [decide_eq_true hka] at hcmp
          simp only [Bool.not_true] at hcmp
          have HKA := hid hka
          clear hka
          have q0 := block_cell HR'.out (i := 0) rfl
          have q1 := block_cell HR'.out (i := 1) rfl
          have z0 := block_free HR'.out (i := 0)
          have z1 := block_free HR'.out (i := 1)
          go_wp2_with fail
          refine bodyPost_gen fun W3 hW3 => ?_
          have h5 := set2 HR'.out (.bool ba) (.int .i64 (qa : Int))
          rw [← hW3] at h5
          obtain ⟨e5, k5, s5, c5⟩ := h5
          have p0 := block_cell e5 (i := 0) rfl
          have p1 := block_cell e5 (i := 1) rfl
          have HC5 := hid (HC2.out.keep (w' := W3) fun b hb hl => k5 b (fun e => by
            have : b < w.heap.size := by
              obtain ⟨p, hp, hb⟩ := hb
              rw [List.mem_singleton] at hp
              subst hp
              rcases hb with rfl | rfl
              · exact hcbl.1
              · exact hcbl.2
            omega))
          have HCG5 := hid (HCG.out.trans' c5 (fun b hb e => .inr (by omega)))
          clear hW3 e5 k5 s5 c5 q0 q1 z0 z1 x0 x1 f0 f1 hcmp
          refine bodyPost_ret (v := .agg #[.bool ba, .int .i64 (qa : Int)]) (by simp [results, Try.results36, go_sem, p0, p1]) rfl ⟨by rw [HAK.out, HA2.out], ⟨l', ht, HC5.out, HR2.out⟩, HCG5.out.mono fun b hb h => ?_⟩
          rcases h with h | h
          · exact h
          · omega
        · rw [decide_eq_false hka] at hcmp
          simp only [Bool.not_false] at hcmp
          have hfne : f k' ≠ k' := by rw [HFK.out]; exact fun e => hka e.symm
          have HFN := hid hfne
          rcases hp : parC [(cb, mb, l')] k' with _ | v
          · exact absurd (HR2.out.top k' hp) hfne
          · have hup := HR2.out.up k' v hp
            have HUP := hid hup
            have hab := above_state _ _ k' wr HC2.out
            rw [hp, HK2'.out] at hab
            have HAB := hid hab
            have hlt := hup.2
            clear hp hup hab hfne hka
            go_wp2_with fail
            refine HAB.out.mono ?_
            rintro e w5 ⟨rfl, hb5⟩
            obtain ⟨bv, qv, hv1, hv2⟩ := arrS_split v
            have HV1 := hid hv1
            have HV2 := hid hv2
            rw [show encS ((some v).getD k') = .agg #[.bool bv, .int .i64 (qv : Int)] from hv2]
            have hs5 := hb5.size
            have hx5 := (hb5.block _ (lt_of_block HX.out)).trans HX.out
            have hf5 := (hb5.block _ (lt_of_block HF.out)).trans HF.out
            have hr5 := (hb5.block _ (lt_of_block HR'.out)).trans HR'.out
            have HX5 := hid hx5
            have HF5 := hid hf5
            have HR5 := hid hr5
            rw [HK1'.out] at hx5
            rw [HA1.out] at hf5
            have hC5 := HC2.out.keep (w' := w5) fun b _ hl => hb5.block b hl
            have HC5 := hid hC5
            have HCG5 := hid (HCG.out.trans (Chg.of_new hb5))
            have u0 := block_cell hx5 (i := 0) rfl
            have u1 := block_cell hx5 (i := 1) rfl
            have y0 := block_cell hf5 (i := 0) rfl
            have y1 := block_cell hf5 (i := 1) rfl
            have z0 := block_free hx5 (i := 0)
            have z1 := block_free hx5 (i := 1)
            have hxl5 := lt_of_block hx5
            have hfl5 := lt_of_block hf5
            have hcmp2 := state_neq v a
            rw [hv2, HA2.out] at hcmp2
            clear hv1 hv2 hb5 hx5 hf5 hr5 hC5 hcmp x0 x1 f0 f1
            by_cases hva : v = a
            · rw [decide_eq_true hva] at hcmp2
              simp only [Bool.not_true] at hcmp2
              clear hva
              go_wp2_with fail
              go_roundg (ht v)
              case rel =>
                have hxa := HX5.out
                rw [HK1'.out] at hxa
                obtain ⟨e9, k9, s9, c9⟩ := set2 hxa (.bool bv) (.int .i64 (qv : Int))
                have hrl := lt_of_block HR5.out
                refine ⟨v, l', HUP.out.1.trans HFK.out, Nat.le_refl _, HC5.out.keep (fun b hb hl => (Below.heap_alloc _ _ b (by rw [s9]; exact hl)).trans (k9 b (fun e => ?_))), HR2.out, (HCG5.out.trans' c9 (fun b hb e => .inr (by omega))).alloc _, ?_, ?_, ?_⟩
                · have := inCh2 hb hcbl.1 hcbl.2
                  omega
                · rw [HV1.out]; exact (Below.heap_alloc _ _ _ (by rw [s9]; exact hxl5)).trans e9
                · exact (Below.heap_alloc _ _ _ (by rw [s9]; exact hrl)).trans ((k9 _ (by omega)).trans HR5.out)
                · exact (Below.heap_alloc _ _ _ (by rw [s9]; exact hfl5)).trans ((k9 _ (by omega)).trans HF5.out)
              all_goals omega
            · rw [decide_eq_false hva] at hcmp2
              simp only [Bool.not_false] at hcmp2
              clear hva
              have hca : ChainC encS 86 (w5.alloc (.cells #[.bool bv, .int .i64 (qv : Int)] 56)) (some ⟨cb, 0, none⟩) [(cb, mb, l')] := HC5.out.keep fun b hb hl => Below.heap_alloc w5 _ b hl
              have HCA := hid hca
              clear hca
              go_wp2_with fail
              refine wp_gen fun W6 hW6 => ?_
              have hb6 : Below w5.heap.size w5 W6 := by rw [hW6]; exact (Below.refl _ _).alloc (Nat.le_refl _) _
              have hx6 := (hb6.block _ hxl5).trans HX5.out
              have hf6 := (hb6.block _ hfl5).trans HF5.out
              have hr6 := (hb6.block _ (lt_of_block HR5.out)).trans HR5.out
              have hn6 : W6.heap[w5.heap.size]? = some (.cells #[.bool bv, .int .i64 (qv : Int)] 56 (0, 0)) := by rw [hW6]; exact heap_alloc_new w5 _
              have hc6 := HCA.out
              rw [← hW6] at hc6
              have HX6 := hid hx6
              have HF6 := hid hf6
              have HR6 := hid hr6
              have HN6 := hid hn6
              have HC6 := hid hc6
              have HB6 := hid hb6
              have HCG6 := hid (HCG5.out.trans (Chg.of_new hb6))
              obtain ⟨_, c2, h1, h2, h3, h4, h5⟩ := hc6
              obtain ⟨W7, hrun, hm7, hg7, hs7⟩ := run_update_b state_key (T := 84) (E := 56) (by kernel_rfl) (h2.of_block (w' := W6.drew) rfl) k' (encS a)
              rw [← updB_val] at hm7
              have hg7' : W6.grownBy W7 (some mb) := ⟨hg7.os, hg7.tape, hg7.output, hg7.size, hg7.block⟩
              have hc7 := HC6.out.turn hg7' hm7 (updB_nodup h3 _ _)
              have hpu := parC_upd (cb := cb) (mb := mb) (l := l') (rest := []) k' a
              have hr7 := HR2.out.press HFN.out (by rw [hpu.1, HFK.out]) hpu.2
              have HC7 := hid hc7
              have HR7 := hid hr7
              rw [HK2'.out, HA2.out] at hrun
              have hmx : ∀ b, b = w.heap.size ∨ b = w.heap.size + 1 ∨ b = w.heap.size + 1 + 1 ∨ b = w5.heap.size → b ≠ mb := fun b hb e => by have := hcbl.2; omega
              have hx7 := (hg7'.block _ (lt_of_block hx6) (by simpa using hmx _ (.inl rfl))).trans hx6
              have hf7 := (hg7'.block _ (lt_of_block hf6) (by simpa using hmx _ (.inr (.inr (.inl rfl))))).trans hf6
              have hr7' := (hg7'.block _ (lt_of_block hr6) (by simpa using hmx _ (.inr (.inl rfl)))).trans hr6
              have hn7 := (hg7'.block _ (lt_of_block hn6) (by simpa using hmx _ (.inr (.inr (.inr rfl))))).trans hn6
              have HX7 := hid hx7
              have HF7 := hid hf7
              have HR7' := hid hr7'
              have HCG7 := hid (HCG6.out.grown hg7' (fun b e _ => .inl (Option.some.inj e).symm))
              rw [HK1'.out] at hx6 hx7
              rw [HA1.out] at hf6
              have a0 := block_cell hx6 (i := 0) rfl
              have a1 := block_cell hx6 (i := 1) rfl
              have b0' := block_cell hf6 (i := 0) rfl
              have b1' := block_cell hf6 (i := 1) rfl
              have c0 := block_cell h1 (i := 0) rfl
              have n0 := block_cell hn7 (i := 0) rfl
              have n1 := block_cell hn7 (i := 1) rfl
              have r0 := block_cell hx7 (i := 0) rfl
              have r1 := block_cell hx7 (i := 1) rfl
              have r2 := block_free hx7 (i := 0)
              have r3 := block_free hx7 (i := 1)
              have hl7 := lt_of_block hx7
              clear hW6 hb6 hx6 hf6 hr6 hn6 h1 h2 h3 h4 h5 hm7 hg7 hs7 hg7' hc7 hpu hr7 hx7 hf7 hr7' hn7 hmx u0 u1 y0 y1 z0 z1 hcmp2
              go_still_tail 6, (by kernel_rfl)
              simp only [World.drew_eq]
              go_wp2_with fail
              go_roundg (ht v)
              case rel =>
                have hxa := HX7.out
                rw [HK1'.out] at hxa
                obtain ⟨e9, k9, s9, c9⟩ := set2 hxa (.bool bv) (.int .i64 (qv : Int))
                refine ⟨v, _, HUP.out.1.trans HFK.out, Nat.le_refl _, HC7.out.keep (fun b hb hl => k9 b (fun e => ?_)), HR7.out, HCG7.out.trans' c9 (fun b hb e => .inr (by omega)), ?_, ?_, ?_⟩
                · have := inCh2 hb hcbl.1 hcbl.2
                  omega
                · rw [HV1.out]; exact e9
                · exact (k9 _ (by omega)).trans HR7'.out
                · exact (k9 _ (by omega)).trans HF7.out
              all_goals omega
    · have hup := HR.out.up a v hp
      have HUP := hid hup
      have hlt := hup.2
      have HTV := HT.out
      rw [hp] at HTV
      simp only [Option.getD_some] at HTV
      obtain ⟨bv, qv, hv1, hv2⟩ := arrS_split v
      obtain ⟨ba, qa, ha1, ha2⟩ := arrS_split a
      have HV1 := hid hv1
      have HV2 := hid hv2
      have HTV1 := hid HTV
      have hf := HF.out
      rw [hv1] at HTV
      rw [ha1] at hf
      have HFF := hid hf
      have t0 := block_cell HTV (i := 0) rfl
      have t1 := block_cell HTV (i := 1) rfl
      have f0 := block_cell hf (i := 0) rfl
      have f1 := block_cell hf (i := 1) rfl
      have z0 := block_free hf (i := 0)
      have z1 := block_free hf (i := 1)
      clear hp hup hv1 hv2 ha1 ha2 HTV hf
      go_upto_region 6 with (fail)
      refine wp_gen fun W5 hW5 => ?_
      have h5 := set2 HFF.out (.bool bv) (.int .i64 (qv : Int))
      rw [← hW5] at h5
      obtain ⟨e5, k5, s5, c5⟩ := h5
      have hbw5 : Below w.heap.size w W5 := HB.out.trans (c5.below (fun b h e => by omega) (by omega))
      have HBW5 := hid hbw5
      have ht5 := (k5 tb (by omega)).trans HTV1.out
      have HX5 := hid ((k5 _ (by omega)).trans HX.out)
      have HR5 := hid ((k5 _ (by omega)).trans HR'.out)
      have HF5 := hid (show W5.heap[w.heap.size + 1 + 1]? = some (.cells (arrS v) 56 (0, 0)) by rw [HV1.out]; exact e5)
      rw [HV1.out] at ht5
      have u0 := block_cell ht5 (i := 0) rfl
      have u1 := block_cell ht5 (i := 1) rfl
      have y0 := block_cell e5 (i := 0) rfl
      have y1 := block_cell e5 (i := 1) rfl
      have htl5 := lt_of_block ht5
      have hfl5 := lt_of_block e5
      have habv : ∀ W', Below W5.heap.size W5 W' → Calls Try.prog 55 #[.pointer (some ⟨cb, 0, none⟩), .agg #[.bool bv, .int .i64 (qv : Int)]] W' fun e w' => AboveSays (parC ch v) v W' e w' := fun W' hW' => by
        rw [← HV2.out]
        exact above_state _ ch v W' (HC.out.keep fun b hb _ => (HBW5.out.trans (hW'.mono HBW5.out.size)).block b (HLT.out b hb))
      have HABV := hid habv
      clear hW5 e5 k5 s5 c5 hbw5 ht5 habv t0 t1 f0 f1 z0 z1
      go_wp2_with fail
      refine (HABV.out _ (by go_grown)).mono ?_
      rintro e w8 ⟨rfl, hb8⟩
      obtain ⟨b9, q9, h91, h92⟩ := arrS_split ((parC ch v).getD v)
      rw [h92]
      have H91 := hid h91
      have hb58 : Below W5.heap.size W5 w8 := (show Below W5.heap.size W5 (W5.alloc (.cells #[.bool bv, .int .i64 (qv : Int)] 56)) from (Below.refl _ _).alloc (Nat.le_refl _) _).trans (hb8.mono (by simp))
      have hn8 : w8.heap[W5.heap.size]? = some (.cells #[.bool bv, .int .i64 (qv : Int)] 56 (0, 0)) := (hb8.block _ (by simp)).trans (heap_alloc_new W5 _)
      have HN8 := hid hn8
      have HB58 := hid hb58
      have n0 := block_cell hn8 (i := 0) rfl
      have n1 := block_cell hn8 (i := 1) rfl
      have z0 := block_free hn8 (i := 0)
      have z1 := block_free hn8 (i := 1)
      clear hb8 h91 h92 hb58 hn8 u0 u1 y0 y1
      go_wp2_with fail
      go_roundg (ht v)
      case rel =>
        obtain ⟨e9, k9, s9, c9⟩ := set2 HN8.out (.bool b9) (.int .i64 (q9 : Int))
        refine ⟨v, W5.heap.size, HUP.out.1.trans HFA.out, Nat.le_refl _, rfl, rfl, by omega, (HBW5.out.trans (HB58.out.mono HBW5.out.size)).trans (c9.below (fun b h e => by omega) (by have := HB58.out.size; omega)), ?_, ?_, ?_, ?_⟩
        · exact ((k9 _ (by omega)).trans (HB58.out.block _ (by omega))).trans HX5.out
        · exact ((k9 _ (by omega)).trans (HB58.out.block _ (by omega))).trans HR5.out
        · exact ((k9 _ (by omega)).trans (HB58.out.block _ (by omega))).trans HF5.out
        · rw [H91.out]; exact e9
      all_goals omega
end Go.Proofs.Ytcmhginhfhiolaa
