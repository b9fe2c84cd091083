/-
  Walk of Names.
-/
import Derived.Test.YtdakdpfofgkjoaaGreatDoorZ29
set_option linter.unusedVariables false
set_option linter.unusedSimpArgs false
namespace Go.Proofs.YtdakdpfofgkjoaaGreatDoor
open Go.RowKit Go.Shelf
attribute [local go_sem] cell_alloc_old Oper.semAt_some

theorem string_info : (Tryz.prog.info? 9).map (fun i => (i.zero, i.size, i.bytes)) = some (some (.string ⟨#[]⟩), 1, 16) := by kernel_rfl
/-- The state of the loop: seen and out. -/
structure NmI (W : World) (sb ob mb base : Nat) (xs : List ByteArray) : Prop where
  seen : W.heap[sb]? = some (.cells #[.map (some mb)] 76 (0, 0))
  set : BSet W mb xs
  out : ∃ A c, W.heap[ob]? = some (.cells #[.slice A xs.length c] 43 (0, 0)) ∧ W.ownsRow base 9 1 (.slice A xs.length c) xs.length (xs.map .string)
theorem NmI.chg {W W' : World} {V : Dom} {sb ob mb base : Nat} {xs : List ByteArray} (h : NmI W sb ob mb base xs) (hc : Chg V W W') (h1 : ¬ V sb) (h2 : ¬ V ob) (h3 : ¬ V mb) (h4 : ∀ k, base ≤ k → ¬ V k) : NmI W' sb ob mb base xs := by
  obtain ⟨A, c, h5, h6⟩ := h.out
  refine ⟨hc.box h.seen h1, h.set.of_block (hc.block _ h.set.lt h3), A, c, hc.box h5 h2, own_chg h6 hc fun k hk => ?_⟩
  rcases h6.2 with ⟨h0, _⟩ | ⟨g, cap, cur, hv, hb, hg, _⟩
  · rw [h0] at hk; cases hk
  · rw [hv] at hk
    injection hk with hk
    have : g = k := hk
    subst this
    exact h4 _ hb
theorem wpIn_cut {F : Fence} {n : Nat} {P : Program} {c : Code} {Q : Exit → Act → World → Prop} {a A : Act} {w W : World} (h : c.wpIn F n P (fun e a' w' => e = .normal ∧ a' = A ∧ w' = W) a w) (hq : Q .normal A W) : c.wpIn F n P Q a w :=
  wpIn_mono h (by rintro _ _ _ ⟨rfl, rfl, rfl⟩; exact hq)
set_option maxRecDepth 100000 in
set_option maxHeartbeats 4000000 in
theorem names_any {D : Dom} (f : Fm) (v : Value) (w : World) (h : RdF3 w D v f) (hg : GF w) (hd : f.depth ≤ 5000) (hz : f.size ≤ 1000000) :
    Calls Tryz.prog 17 #[v] w fun e w' => ∃ A c, e = .returned (.slice A (namesF f).length c) ∧ RdS w' (fun k => w.heap.size ≤ k) A c (namesF f) ∧ Below w.heap.size w w' := by
  obtain ⟨A, c, rfl, ha⟩ := h
  have hmm := @run_makeMap Tryz.prog
  have HA := hid ha.old
  have HG := hid hg
  have HD := hid hd
  clear ha hg hd
  refine (callsIn_wide (n := 3)).1 (callsIn_of_wp_marks Tryz.func17 rfl trivial ?_ rfl)
  simp only [Tryz.ntmps17, List.size_toArray, List.length_cons, List.length_nil, Nat.reduceAdd, Nat.reduceSub, Array.replicate_succ, Array.replicate_zero, List.push_toArray, List.append_toArray, List.nil_append, List.cons_append]
  refine wpIn_wide.2 ?_
  go_upto_region 3 with (fail)
  refine wp_gen fun W hW => ?_
  have hb : Below w.heap.size w W := by rw [hW]; go_grown
  have e0 : Box5 W w.heap.size f A c := by
    show W.heap[w.heap.size]? = _
    rw [hW, at_old _ _ _ (by simp <;> omega), at_old _ _ _ (by simp <;> omega), at_old _ _ _ (by simp <;> omega)]; exact at_new _ _ _ rfl
  have e1 : BSet W (w.heap.size + 1) [] := by
    refine BSet.of_block (w := (w.alloc (.cells #[.int .i64 f.op, .string f.name, .int .i64 f.val, .int .i64 f.bound, .slice A f.args.length c] 28)).alloc (.map #[] 0)) ?_ ?_
    · have := BSet.new (w.alloc (.cells #[.int .i64 f.op, .string f.name, .int .i64 f.val, .int .i64 f.bound, .slice A f.args.length c] 28))
      simpa using this
    · rw [hW, at_old _ _ _ (by simp <;> omega), at_old _ _ _ (by simp <;> omega)]
  have e2 : W.heap[w.heap.size + 2]? = some (.cells #[.map (some (w.heap.size + 1))] 76 (0, 0)) := by rw [hW, at_old _ _ _ (by simp)]; exact at_new _ _ _ (by simp)
  have e3 : W.heap[w.heap.size + 3]? = some (.cells #[.slice none 0 0] 43 (0, 0)) := by rw [hW]; exact at_new _ _ _ (by simp)
  have hs : W.heap.size = w.heap.size + 4 := by rw [hW]; simp
  have HB := hid hb
  have HE0 := hid e0
  have HE1 := hid e1
  have HE2 := hid e2
  have HE3 := hid e3
  have HS := hid hs
  clear hW hb e0 e1 e2 e3 hs hmm
  go_wp2_with (first | (go_at_call 45; refine (nodes_any _ W).mono ?_; rintro e w2 ⟨rfl, rfl⟩))
  refine wp_gen fun W2 hW2 => ?_
  have hb2 : Below W.heap.size W W2 := by rw [hW2]; go_grown
  have hp2 : W2.cell? ⟨W.heap.size, 0, none⟩ = some (.pointer (some ⟨w.heap.size, 0, none⟩)) := by rw [hW2]; exact block_cell (at_new _ _ _ rfl) (i := 0) rfl
  have HS2 := hid (show W2.heap.size = w.heap.size + 5 by rw [hW2]; simp; have := HS.out; omega)
  have HB2 := hid (HB.out.trans (hb2.mono HB.out.size))
  have HI2 := hid (show NmI W2 (w.heap.size + 2) (w.heap.size + 3) (w.heap.size + 1) (W2.heap.size + 7) [] from
    ⟨(hb2.block _ (by have := HS.out; omega)).trans HE2.out, HE1.out.of_block (hb2.block _ (by have := HS.out; omega)), none, 0, (hb2.block _ (by have := HS.out; omega)).trans HE3.out, ⟨rfl, .inl ⟨rfl, rfl⟩⟩⟩)
  have HF := hid (Box5.hasF (D := (· < w.heap.size + 1)) (HE0.out.below hb2) (Nat.lt_succ_self _) ((HA.out.keep (Keeps.of_below HB2.out fun _ h => h)).mono fun k hk _ => Nat.lt_succ_of_lt hk))
  have HP := hid hp2
  have HG2 := hid (HG.out.below HB2.out HG.out.pos)
  clear hW2 hb2 hp2
  obtain ⟨L, hL⟩ : ∃ L, L = preL false f := ⟨_, rfl⟩
  have HL := hid hL
  have hLl : L.length = f.size := by rw [hL]; exact preL_len _ _
  have HLL := hid hLl
  clear hL hLl
  obtain ⟨i0, hti, hz0, hz1, hz2⟩ := info_parts string_info
  refine range_nodes f w.heap.size 0 W.heap.size (w.heap.size + 1) A c (fun b => b = w.heap.size + 1 ∨ b = w.heap.size + 3 ∨ W2.heap.size + 7 ≤ b)
    (fun k W' => NmI W' (w.heap.size + 2) (w.heap.size + 3) (w.heap.size + 1) (W2.heap.size + 7) (metN L k))
    (fun c W' => False)
    rfl rfl HF.out (by omega) (by have := HS2.out; omega) HP.out HG2.out HD.out ?hZ ?hI ?hIx HI2.out ?a1 ?hassign ?hround ?hdone ?hstop
  case hassign =>
    intro l p q W K hK
    gi_wp2
    exact hK
  case hZ => intro b hb; have := HS2.out; omega
  case hI =>
    rintro k W3 W4 h2 hc
    exact h2.chg hc (by have := HS2.out; omega) (by have := HS2.out; omega) (by have := HS2.out; omega) (fun k hk h => by omega)
  case hIx => rintro c W3 W4 h0 hc; exact h0
  case hround =>
    rintro l k W3 b o A' c' hs3 hg3 hc3 ⟨hseen, hset, A5, c5, hout, hown⟩ hlen hf3
    rw [← HL.out] at hlen hf3
    obtain ⟨g, hg⟩ : ∃ g, g = (L.getD k default).1 := ⟨_, rfl⟩
    obtain ⟨xs, hxs⟩ : ∃ xs, xs = metN L k := ⟨_, rfl⟩
    have HN := hid (show metN L (k + 1) = addN xs (L.getD k default) by rw [hxs]; exact metN_succ hlen)
    have HXL := hid (show xs.length ≤ 1000000 by rw [hxs]; have := metN_len L k; have := HLL.out; omega)
    rw [← hxs] at hset hout hown
    rw [← hg] at hf3
    have HGG := hid hg
    obtain ⟨q1, q2, p0, p1, p2, p3, p4, q3⟩ := hf3
    have HOWN := hid hown
    have HSET := hid hset
    have HSEEN := hid hseen
    have HOUT := hid hout
    have s0 := block_cell hseen (i := 0) rfl
    have u0 := block_cell hout (i := 0) rfl
    have u1 := block_free hout (i := 0)
    have ul := lt_of_block hout
    have HS3 := hid hs3
    clear hg hxs q3 hlen hg3 hc3 p2 p3 p4 hown hset hseen hout hs3
    by_cases h3 : g.op = 3
    · have d3 : (g.op == 3) = true := by rw [h3]; rfl
      by_cases hm : g.name ∈ xs
      · have hlk : (Instr.lookup 76 (.map (some (w.heap.size + 1))) (.string g.name) false).run Tryz.prog W3.drew = .ok (.bool true) W3.drew := by
          have := (HSET.out.of_block (w' := W3.drew) rfl).look g.name
          rw [this, decide_eq_true hm]
        have HE := hid (show metN L (k + 1) = xs by rw [HN.out]; unfold addN; rw [if_neg fun h => h.2 (by rw [← HGG.out]; exact hm)])
        clear h3 hm
        gi_upto_region 5 with (fail)
        apply wpIn_cut (W := W3.drew)
        · gi_region
          all_goals exact ⟨rfl, rfl, rfl⟩
        · gi_wp2_with fail
          refine ⟨(Chg.refl _ W3).drew, ?_⟩
          show NmI _ _ _ _ _ (metN L (k + 1))
          rw [HE.out]
          exact NmI.chg ⟨HSEEN.out, HSET.out, A5, c5, HOUT.out, HOWN.out⟩ ((Chg.refl (fun _ => False) W3).drew) (fun h => h) (fun h => h) (fun h => h) fun _ _ h => h
      · have hlk : (Instr.lookup 76 (.map (some (w.heap.size + 1))) (.string g.name) false).run Tryz.prog W3.drew = .ok (.bool false) W3.drew := by
          have := (HSET.out.of_block (w' := W3.drew) rfl).look g.name
          rw [this, decide_eq_false hm]
        have HE := hid (show metN L (k + 1) = xs ++ [g.name] by rw [HN.out]; unfold addN; rw [if_pos ⟨by rw [← HGG.out]; exact h3, by rw [← HGG.out]; exact hm⟩, ← HGG.out])
        obtain ⟨w6, hput, hset6, hg6, hs6⟩ := (HSET.out.of_block (w' := W3.drew.drew) rfl).put hm
        have HSET6 := hid hset6
        have HG6 := hid hg6
        have HS6 := hid hs6
        have hsz6 : w6.heap.size = W3.heap.size := hs6
        have HSZ6 := hid hsz6
        have q16 : w6.cell? ⟨b, o + 1, none⟩ = some (.string g.name) := by
          have := hg6.cell (a := ⟨b, o + 1, none⟩) p1 (fun e => by have h : b < w.heap.size + 1 := q1; have e : b = w.heap.size + 1 := Option.some.inj e; omega)
          exact this
        have u06 : w6.cell? ⟨w.heap.size + 3, 0, none⟩ = some (.slice A5 xs.length c5) := hg6.cell (a := ⟨w.heap.size + 3, 0, none⟩) u0 (fun e => by have e : w.heap.size + 3 = w.heap.size + 1 := Option.some.inj e; omega)
        have hout6 : w6.heap[w.heap.size + 3]? = some (.cells #[.slice A5 xs.length c5] 43 (0, 0)) := (hg6.block _ ul (fun e => by have e : w.heap.size + 3 = w.heap.size + 1 := Option.some.inj e; omega)).trans HOUT.out
        have u16 := block_free hout6 (i := 0)
        have ul6 := lt_of_block hout6
        have HOUT6 := hid hout6
        have hown6 : w6.ownsRow (W2.heap.size + 7) 9 1 (.slice A5 xs.length c5) xs.length (xs.map .string) := own_chg HOWN.out (V := fun k => k = w.heap.size + 1) (by
          refine ⟨hg6.os, hg6.tape, hg6.output, hg6.size, fun k hk hv => hg6.block k hk (by intro e; injection e with e; exact hv e)⟩) fun k hk hv => by
            rcases HOWN.out.2 with ⟨h0, _⟩ | ⟨g', cap, cur, hv', hb, hg', _⟩
            · rw [h0] at hk; cases hk
            · rw [hv'] at hk
              injection hk with hk
              have e1 : g' = k := hk
              have := HS2.out
              omega
        have HOWN6 := hid hown6
        clear h3 hm hset6 hg6 hs6 hout6 hown6 hsz6
        gi_upto_region 5 with (fail)
        apply wpIn_cut (W := W3.drew)
        · gi_region
          all_goals exact ⟨rfl, rfl, rfl⟩
        · gi_upto_region 6 with (fail)
          apply wpIn_cut (W := w6)
          · gi_region
            all_goals exact ⟨rfl, rfl, rfl⟩
          · gi_upto_region 7 with (fail)
            have hne : ∀ k', (Value.slice A5 xs.length c5).ownBlock = some k' → W2.heap.size + 7 ≤ k' := fun k' hk => by
              rcases HOWN6.out.2 with ⟨h0, _⟩ | ⟨g', cap, cur, hv', hb, hg', _⟩
              · rw [h0] at hk; cases hk
              · rw [hv'] at hk
                have e1 : g' = k' := Option.some.inj hk
                omega
            refine wpIn_round_sink (fun W' => W'.cell? ⟨w.heap.size + 3, 0, none⟩ = some (.slice A5 xs.length c5) ∧ W'.cell? ⟨b, o + 1, none⟩ = some (.string g.name)) (by kernel_rfl) (by kernel_rfl) (fun h => by obtain ⟨_, _, h⟩ := h; exact h) (by kernel_rfl) (by kernel_rfl) ⟨u06, q16⟩ (fun hHeld => ?_)
            simp only [List.dropLast_cons_cons, List.dropLast_singleton, List.getLast_cons_cons, List.getLast_singleton]
            refine wpAnyH_take (i := 0) (v := ?_) rfl (by kernel_rfl) (by kernel_rfl) (by kernel_rfl) (fun _ _ _ h => h) (Or.inl ⟨by rfl, ?_⟩) (by assumption) ?_
            rotate_left
            · intro w hSw; (try dsimp only at hSw); go_simp; (try (with_reducible rfl))
            try simp only [Act.put, List.setIfInBounds_toArray, List.set_cons_zero, List.set_cons_succ]
            refine wpAnyH_take (i := 1) (v := ?_) rfl (by kernel_rfl) (by kernel_rfl) (by kernel_rfl) (fun _ _ _ h => h) (Or.inl ⟨by rfl, ?_⟩) (by assumption) ?_
            rotate_left
            · intro w hSw; (try dsimp only at hSw); go_simp; (try (with_reducible rfl))
            try simp only [Act.put, List.setIfInBounds_toArray, List.set_cons_zero, List.set_cons_succ]
            refine wpAnyH_take (i := 2) (v := ?_) rfl (by kernel_rfl) (by kernel_rfl) (by kernel_rfl) (fun _ _ _ h => h) (Or.inl ⟨by rfl, ?_⟩) (by assumption) ?_
            rotate_left
            · intro w hSw; (try dsimp only at hSw); go_simp; (try (with_reducible rfl))
            try simp only [Act.put, List.setIfInBounds_toArray, List.set_cons_zero, List.set_cons_succ]
            refine wpAnyH_take (i := 3) (v := ?_) rfl (by kernel_rfl) (by kernel_rfl) (by kernel_rfl) (fun _ _ _ h => h) (Or.inl ⟨by rfl, ?_⟩) (by assumption) ?_
            rotate_left
            · intro w hSw; (try dsimp only at hSw); go_simp; (try (with_reducible rfl))
            try simp only [Act.put, List.setIfInBounds_toArray, List.set_cons_zero, List.set_cons_succ]
            refine wpAnyH_take (i := 4) (v := ?_) rfl (by kernel_rfl) (by kernel_rfl) (by kernel_rfl) (fun _ _ _ h => h) (Or.inl ⟨by rfl, ?_⟩) (by assumption) ?_
            rotate_left
            · intro w hSw; (try dsimp only at hSw); go_simp; (try (with_reducible rfl))
            try simp only [Act.put, List.setIfInBounds_toArray, List.set_cons_zero, List.set_cons_succ]
            refine wpAnyH_ready (rs := [5]) (by kernel_rfl) (by simp) (AllReadyH.cons rfl (fun K hK => ?_) AllReadyH.nil)
            go_simp
            refine hK.out _ _ ?_ (fun hHeld => ?_)
            · exact ⟨(cell_alloc_old _ _ _ (by simpa using ul6)).trans u06, (cell_alloc_old _ _ _ (by simpa using World.block_lt_of_cell? _ _ q16)).trans q16⟩
            clear hK K
            try simp only [Act.put, List.setIfInBounds_toArray, List.set_cons_zero, List.set_cons_succ]
            refine wpAnyH_gen (fun wA hwA hHeld => ?_) hHeld
            have hbA : Below w6.heap.size w6 wA := by rw [hwA]; exact ((Below.refl _ _).drew).alloc (Nat.le_refl _) _
            have hrA : Rd wA AnyD 1 (some ⟨w6.heap.size, 0, none⟩) 1 1 [.string g.name] := by rw [hwA]; exact Rd.fresh (D := AnyD) rfl trivial (by simp) (by omega)
            have hszA := hbA.size
            have HBA := hid hbA
            have hoA : wA.ownsRow (W2.heap.size + 7) 9 1 (.slice A5 xs.length c5) xs.length (xs.map .string) := own_chg HOWN6.out (V := fun _ => False) (Chg.of_new hbA) fun _ _ h => h
            clear hwA
            refine wpAnyH_ready (rs := [6]) (by kernel_rfl) (by simp) (AllReadyH.cons rfl (fun K hK => ?_) AllReadyH.nil)
            refine step_append_rd _ (by rfl) _ _ 43 (by rfl) (W2.heap.size + 7) 9 i0 _ 1 16 Tryz.underlying43 hti hz0 hz1 hz2 rfl (by omega) (.slice A5 xs.length c5) xs.length _ (by rfl) hoA _ (some ⟨w6.heap.size, 0, none⟩) 1 1 _ (by rfl) hrA (by simp [Value.oneCell']) (by have := HXL.out; omega) (maxLen_le (by have := HXL.out; omega)) (by have := HSZ6.out; have := HS3.out; omega) ?_
            intro A7 c7 w7 hown7 hg7 hat7
            have hk7 : ∀ b', b' < w6.heap.size → b' < W2.heap.size + 7 → w7.heap[b']? = w6.heap[b']? := fun b' h1 h2 => (hg7.block b' (by omega) (fun e => by have := hne _ e.symm; omega)).trans (hbA.block _ h1)
            have hout7 : w7.heap[w.heap.size + 3]? = some (.cells #[.slice A5 xs.length c5] 43 (0, 0)) := (hk7 _ ul6 (by have := HS2.out; omega)).trans HOUT6.out
            have hbb : b < W2.heap.size + 7 := by have h : b < w.heap.size + 1 := q1; have := HS2.out; omega
            refine hK.out _ _ ⟨block_cell hout7 (i := 0) rfl, (World.cell?_of_block (w := w6) (a := ⟨b, o + 1, none⟩) (hk7 b (World.block_lt_of_cell? _ _ q16) hbb)).trans q16⟩ (fun hHeld => ?_)
            clear hK K
            try simp only [Act.put, List.setIfInBounds_toArray, List.set_cons_zero, List.set_cons_succ]
            refine wpAnyH_done (by kernel_rfl) ?_ _
            have HOUT7 := hid hout7
            have u17 := block_free hout7 (i := 0)
            have u07 := block_cell hout7 (i := 0) rfl
            have ul7 := lt_of_block hout7
            have HOWN7 := hid hown7
            have HG7 := hid hg7
            have HK7 := hid hk7
            clear hout7 hown7 hg7 hk7 hat7 hHeld
            unfold sinkQ
            go_simp
            gi_wp2_with fail
            have hne1 : ¬ w.heap.size + 2 = w.heap.size + 3 := by omega
            have hne2 : ¬ w.heap.size + 1 = w.heap.size + 3 := by omega
            have hwW := HS2.out
            have hc36 : Chg (fun b => b = w.heap.size + 1 ∨ b = w.heap.size + 3 ∨ W2.heap.size + 7 ≤ b) W3 w6 := ⟨HG6.out.os, HG6.out.tape, HG6.out.output, HG6.out.size, fun k hk hv => HG6.out.block k hk (fun e => hv (.inl (Option.some.inj e)))⟩
            have hc67 : Chg (fun b => b = w.heap.size + 1 ∨ b = w.heap.size + 3 ∨ W2.heap.size + 7 ≤ b) w6 w7 := ⟨HG7.out.os.trans HBA.out.os, HG7.out.tape.trans HBA.out.tape, HG7.out.output.trans HBA.out.output, Nat.le_trans HBA.out.size HG7.out.size, fun k hk hv => HK7.out k hk (by
              have : ¬ W2.heap.size + 7 ≤ k := fun h => hv (.inr (.inr h))
              omega)⟩
            obtain ⟨w8, hw8⟩ : ∃ w8, w8 = w7.setCell ⟨w.heap.size + 3, 0, none⟩ (.slice A7 (xs.length + 1) c7) := ⟨_, rfl⟩
            rw [← hw8]
            have hc78 : Chg (fun b => b = w.heap.size + 3) w7 w8 := by rw [hw8]; exact (Chg.refl (fun b => b = w.heap.size + 3) w7).set ⟨w.heap.size + 3, 0, none⟩ _ fun _ => rfl
            have hout8 : w8.heap[w.heap.size + 3]? = some (.cells #[.slice A7 (xs.length + 1) c7] 43 (0, 0)) := by rw [hw8, set_block HOUT7.out]; rfl
            refine ⟨(hc36.trans hc67).trans (hc78.mono fun b _ h => .inr (.inl h)), ?_⟩
            show NmI _ _ _ _ _ (metN L (k + 1))
            rw [HE.out]
            have hsl : w.heap.size + 2 < w6.heap.size := by have := HSZ6.out; have := HS3.out; omega
            have hml : w.heap.size + 1 < w6.heap.size := by omega
            refine ⟨hc78.box ((HK7.out _ hsl (by omega)).trans ((HG6.out.block _ (lt_of_block HSEEN.out) (fun e => by have e : w.heap.size + 2 = w.heap.size + 1 := Option.some.inj e; omega)).trans HSEEN.out)) hne1,
              HSET6.out.of_block ((hc78.block _ (Nat.lt_of_lt_of_le hml hc67.size) hne2).trans (HK7.out _ hml (by omega))), A7, c7, ?_, ?_⟩
            · rw [List.length_append]; exact hout8
            · rw [List.length_append, List.map_append]
              refine own_chg HOWN7.out hc78 fun k' hk' hv => ?_
              have hv : k' = w.heap.size + 3 := hv
              have hk' : (Value.slice A7 (xs.length + 1) c7).ownBlock = some k' := hk'
              rcases HOWN7.out.2 with ⟨h0, _⟩ | ⟨g', cap, cur, hv', hb', hg', _⟩
              · rw [h0] at hk'; cases hk'
              · rw [hv'] at hk'
                have e1 : g' = k' := Option.some.inj hk'
                omega
    · have d3 : (g.op == 3) = false := beq_false_of h3
      have HE := hid (show metN L (k + 1) = xs by rw [HN.out]; unfold addN; rw [if_neg fun h => h3 (by rw [HGG.out]; exact h.1)])
      clear h3
      gi_upto_region 5 with (fail)
      apply wpIn_cut (W := W3.drew)
      · gi_region
        all_goals exact ⟨rfl, rfl, rfl⟩
      · gi_wp2_with fail
        refine ⟨(Chg.refl _ W3).drew, ?_⟩
        show NmI _ _ _ _ _ (metN L (k + 1))
        rw [HE.out]
        exact NmI.chg ⟨HSEEN.out, HSET.out, A5, c5, HOUT.out, HOWN.out⟩ ((Chg.refl (fun _ => False) W3).drew) (fun h => h) (fun h => h) (fun h => h) fun _ _ h => h
  case hdone =>
    rintro W3 hc ⟨hseen, hset, A5, c5, hout, hown⟩ hD3
    obtain ⟨hnd, hmem⟩ := metN_all f
    rw [← HL.out] at hnd hmem
    obtain ⟨xs, hxs⟩ : ∃ xs, xs = metN L f.size := ⟨_, rfl⟩
    rw [← hxs] at hnd hmem hout hown
    have hxl : xs.length ≤ 1000000 := by rw [hxs]; have := metN_len L f.size; omega
    have HSO := hid (sorts_any _ A5 c5 xs (namesF f) W3 hown hnd (namesF_asc f) hmem hxl)
    have hne : ∀ k', (Value.slice A5 xs.length c5).ownBlock = some k' → W2.heap.size + 7 ≤ k' := fun k' hk => by
      rcases hown.2 with ⟨h0, _⟩ | ⟨g', cap, cur, hv', hb, hg', _⟩
      · rw [h0] at hk; cases hk
      · rw [hv'] at hk
        have e1 : g' = k' := Option.some.inj hk
        omega
    have hwW := HS2.out
    have u0 := block_cell hout (i := 0) rfl
    have hbw3 : Below w.heap.size w W3 := HB2.out.trans (hc.below (B := w.heap.size) (fun b hb h => by omega) (by omega))
    have HB3 := hid hbw3
    have HOUT := hid hout
    have HNE := hid hne
    clear hxs hnd hmem hseen hset hown hout hne hwW hbw3 hc
    dsimp only
    go_wp2_with (go_at_call 46; (with_reducible refine HSO.out.mono ?_); rintro e w9 ⟨rfl, hTl, hown9, hg9⟩; have HOWN9 := hid hown9; have HG9 := hid hg9; have HTL := hid hTl; have hD9 := (hg9.block _ (lt_of_block hD3) (fun e => by have := HNE.out _ e.symm; omega)).trans hD3; have hout9 := (hg9.block _ (lt_of_block HOUT.out) (fun e => by have := HNE.out _ e.symm; have := HS2.out; omega)).trans HOUT.out; have u9 := block_cell hout9 (i := 0) rfl; have HD9 := hid hD9; clear hown9 hg9 hTl hout9 hD9 u0)
    have hb9 : Below w.heap.size w w9 := HB3.out.trans ⟨HG9.out.os, HG9.out.tape, HG9.out.output, HG9.out.size, fun k hk => HG9.out.block k (Nat.lt_of_lt_of_le hk HB3.out.size) (fun e => by have := HNE.out _ e.symm; have := HS2.out; omega)⟩
    refine marks_ret' rfl HD9.out (v := .slice A5 xs.length c5) (fun w' => ?_) (fun w' hc' => ?_)
    · simp [results, Tryz.results17, go_sem]
    · refine ⟨A5, c5, by rw [HTL.out], ?_, hb9.trans (hc'.below (fun b hb => by have := HS2.out; omega) hb9.size)⟩
      unfold RdS
      rw [HTL.out]
      have hown' := own_chg HOWN9.out hc' fun k' hk' hv => by
        have := HNE.out _ hk'
        have hv : k' = W2.heap.size := hv
        omega
      exact Rd.own hown' (by omega) (fun k hk => by have := HS2.out; omega)
  case hstop =>
    rintro c W3 hc h0 hD3
    exact h0.elim
end Go.Proofs.YtdakdpfofgkjoaaGreatDoor
