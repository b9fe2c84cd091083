/-
  Walk of newTable.
-/
import Derived.Test.YtfabdpnjjondaaaG10
import Derived.Test.YtfabdpnjjondaaaBits
set_option linter.unusedVariables false
set_option linter.unusedSimpArgs false
namespace Go.Proofs.Ytfabdpnjjondaaa
open Go.RowKit
attribute [local go_sem] cell_alloc_old build_g1 build_g2 build_g3

theorem build_gt (k : Nat) (w : World) : (Instr.build 72 #[(1, .map (some k))]).run Try.prog w = .ok (.agg #[.slice none 0 0, .map (some k)]) w := run_build w 72 _ _ (by kernel_rfl)
theorem build_tb (k : Nat) (st : Int) (w : World) : (Instr.build 63 #[(0, .pointer (some ⟨k, 0, none⟩)), (1, .int .i64 st)]).run Try.prog w = .ok (.agg #[.pointer (some ⟨k, 0, none⟩), .int .i64 st, .slice none 0 0, .int .i64 0, .slice none 0 0]) w := run_build w 63 _ _ (by kernel_rfl)
theorem make_map (w : World) : (Instr.makeMap 70 none).run Try.prog w = .ok (.map (some w.heap.size)) (w.alloc (.map #[] 0)) := by kernel_rfl
theorem build_k3 (a : Int) (w : World) : (Instr.build 45 #[(0, .int .i64 3), (1, .int .i64 a)]).run Try.prog w = .ok (.agg #[.int .i64 3, .int .i64 a, .int .i64 0]) w := run_build w 45 _ _ (by kernel_rfl)
theorem build_k2 (a : Int) (w : World) : (Instr.build 45 #[(0, .int .i64 2), (1, .int .i64 a)]).run Try.prog w = .ok (.agg #[.int .i64 2, .int .i64 a, .int .i64 0]) w := run_build w 45 _ _ (by kernel_rfl)
theorem build_free (w : World) : (Instr.build 74 #[(0, .int .i64 (-1)), (1, .int .i64 0)]).run Try.prog w = .ok (.agg #[.int .i64 (-1), .int .i64 0]) w := run_build w 74 _ _ (by kernel_rfl)
theorem build_two (a b : Int) (w : World) : (Instr.build 74 #[(0, .int .i64 a), (1, .int .i64 b)]).run Try.prog w = .ok (.agg #[.int .i64 a, .int .i64 b]) w := run_build w 74 _ _ (by kernel_rfl)
attribute [local go_sem] build_gt build_tb build_k3 build_k2 build_two make_map

theorem add_len (gs : GS) (g : Gt) : (addG gs g).2.length ≤ gs.length + 1 := by unfold addG; split <;> simp
theorem two_le {n : Nat} (h : n ≤ 32) : 2 ^ n ≤ 4294967296 := by
  have h1 : 2 ^ n ≤ 2 ^ 32 := Nat.pow_le_pow_right (by omega) h
  exact h1
theorem two_nat (n : Nat) : ((2 : Int) ^ n) = ((2 ^ n : Nat) : Int) := by simp
theorem wrap_two (n : Nat) (h : n ≤ 32) : wrap64 ((2 : Int) ^ n) = ((2 ^ n : Nat) : Int) := by
  have := two_le h
  rw [two_nat]
  generalize 2 ^ n = p at this
  exact IntWalk.wrap64_in _ (by omega)
theorem i64_and_mask (k n : Nat) (hk : k < 9223372036854775808) (hn : n ≤ 32) : bits .and .i64 (k : Int) (((2 ^ n : Nat) : Int) - 1) = ((k % 2 ^ n : Nat) : Int) := by
  have h1 := two_le hn
  have h2 : 1 ≤ 2 ^ n := Nat.one_le_two_pow
  have h3 : (((2 ^ n : Nat) : Int) - 1) = ((2 ^ n - 1 : Nat) : Int) := by
    generalize 2 ^ n = p at h1 h2
    omega
  rw [h3, i64_and_nat k (2 ^ n - 1) hk (by omega), Nat.and_two_pow_sub_one_eq_mod]
theorem wrap_small {M : Nat} (h : M ≤ 4294967296) : wrap64 (M : Int) = (M : Int) ∧ wrap64 ((M : Int) - 1) = (M : Int) - 1 := ⟨IntWalk.wrap64_in _ (by omega), IntWalk.wrap64_in _ (by omega)⟩
theorem info_two : (Try.prog.info? 74).map (fun i => (i.zero, i.size, i.bytes)) = some (some (.agg #[.int .i64 0, .int .i64 0]), 2, 16) := by kernel_rfl
theorem Rd.cell2 {w : World} {k : Nat} {u0 u1 : Value} (h0 : w.cell? ⟨k, 0, none⟩ = some u0) (h1 : w.cell? ⟨k, 1, none⟩ = some u1) : Rd w (fun _ => True) 2 (some ⟨k, 0, none⟩) 1 1 [u0, u1] := by
  refine ⟨⟨by simp, by omega, by omega, by omega⟩, fun _ => ⟨k, 0, rfl, trivial, World.block_lt_of_cell? w ⟨k, 0, none⟩ h0, fun j v hv => ?_⟩⟩
  match j, hv with
  | 0, hv => simp at hv; subst hv; exact h0
  | 1, hv => simp at hv; subst hv; exact h1
  | j + 2, hv => simp at hv
theorem pairsTo_succ (m : Mly) (k : Nat) : pairsTo m (k + 1) = pairsTo m k ++ [pairN m k] := by simp [pairsTo, List.range_succ]
theorem info_int : (Try.prog.info? 3).map (fun i => (i.zero, i.size, i.bytes)) = some (some (.int .i64 0), 1, 8) := by kernel_rfl

set_option maxHeartbeats 4000000 in
theorem newTable_any {D : Dom} (w : World) (v : Value) (m : Mly) (hv : RdM w D v m) (hm : mealyB m = true) :
    Calls Try.prog 37 #[v] w fun e w' => ∃ (W0 : World) (bt bg : Nat) (F : Dom) (A : Option Addr) (c : Nat) (R : Option Addr) (rc : Nat), e = .returned (.pointer (some ⟨bt, 0, none⟩)) ∧ w.heap.size ≤ W0.heap.size ∧ Below w.heap.size w w' ∧ (newVars m).1.length = laW m + inW m ∧ (newVars m).2.length ≤ laW m + inW m ∧
      NT W0 w' bt bg m.start (newVars m).1 (newVars m).2 F A c ((2 ^ (laW m + inW m) : Nat) : Int) R rc (pairsTo m (2 ^ (laW m + inW m))) := by
  obtain ⟨Ao, co, An, cn, rfl, hro, hrn⟩ := hv
  have hb : 1 ≤ m.ins ∧ m.ins ≤ 64 ∧ 1 ≤ m.out.length ∧ m.out.length ≤ 3000 := by
    simp only [mealyB, Bool.and_eq_true, decide_eq_true_eq] at hm
    omega
  obtain ⟨i1, i2, o1, o2⟩ := hb
  have HW1 : Hid (∀ W, Calls Try.prog 38 #[.int .i64 m.ins] W fun e w' => e = .returned (.int .i64 (inW m)) ∧ w' = W) := hid fun W => width_any m.ins W i1 (by omega)
  have HW2 : Hid (∀ W, Calls Try.prog 38 #[.int .i64 m.out.length] W fun e w' => e = .returned (.int .i64 (laW m)) ∧ w' = W) := hid fun W => width_any m.out.length W (by omega) (by omega)
  have HM := hid hm
  have hlw : laW m ≤ 16 := bitsN_le _ (by omega) (by omega)
  have hiw : inW m ≤ 16 := bitsN_le _ i1 (by omega)
  have hwl : wrap64 ((laW m : Int) - 1) = (laW m : Int) - 1 := IntWalk.wrap64_in _ (by omega)
  have hwi : wrap64 ((inW m : Int) - 1) = (inW m : Int) - 1 := IntWalk.wrap64_in _ (by omega)
  clear hm hro hrn
  go_enter Try.func37, Try.ntmps37
  go_wp2_with fail
  go_quiet ((go_at_call 38; first | with_reducible exact Calls.quiet_of_same (HW1.out _) | with_reducible exact Calls.quiet_of_same (HW2.out _)))
  obtain ⟨i0, hi, hz0, hz1, hz2⟩ := info_parts info_int
  have hz2' : i0.bytes = 8 := hz2
  obtain ⟨i9, hj, hy0, hy1, hy2⟩ := info_parts info_two
  have hy2' : i9.bytes = 16 := hy2
  go_wp2_with fail
  refine wp_gen fun W hW => ?_
  obtain ⟨W0, hW0⟩ : ∃ W0, W0 = w.alloc (.cells #[.int .i64 m.ins, .int .i64 m.outs, .int .i64 m.start, .slice Ao m.out.length co, .slice An m.next.length cn] 35) := ⟨_, rfl⟩
  have hs0 : W0.heap.size = w.heap.size + 1 := by rw [hW0]; simp
  have hbx0 : Box W0 w.heap.size #[.int .i64 m.ins, .int .i64 m.outs, .int .i64 m.start, .slice Ao m.out.length co, .slice An m.next.length cn] := by rw [hW0]; exact Box.new _ _ _ rfl
  have hbl0 : Below w.heap.size w W0 := by rw [hW0]; go_grown
  have hnt0 : NT W0 W (w.heap.size + 1 + 1 + 1) (w.heap.size + 1 + 1) m.start [] [] (fun b => b = W0.heap.size ∨ b = W0.heap.size + 1) none 0 0 none 0 [] := by
    have h1 := (NT.init W0 m.start).below ((Drawn.n _ nq).below _)
    rw [hs0] at h1 ⊢
    rw [hW]
    rw [hW0] at h1 ⊢
    simpa [Nat.add_assoc] using h1
  have HN0 := hid hnt0
  have HB0 := hid hbx0
  have HBL0 := hid hbl0
  clear hW hW0 hnt0 hbx0 hbl0
  go_loopw [6] (fun t wr => ∃ (k : Nat) (s : List Int × GS) (F : Dom) (A : Option Addr) (c : Nat), k ≤ laW m ∧ t = .int .i64 ((k : Int) - 1) ∧ varsFrom 3 k s = varsFrom 3 (laW m) ([], []) ∧ s.1.length + k = laW m ∧ s.2.length ≤ s.1.length ∧
      NT W0 wr (w.heap.size + 1 + 1 + 1) (w.heap.size + 1 + 1) m.start s.1 s.2 F A c 0 none 0 []) (fun t _ => (intOf t + 1).toNat)
  case atStart => exact ⟨laW m, ([], []), _, none, 0, Nat.le_refl _, rfl, rfl, by simp, by simp, HN0.out⟩
  case round =>
    obtain ⟨k, s, F, A, c, hk, rfl, hvf, hln, hgl, hnt⟩ := hrel
    obtain ⟨c0, c1, c2, c3, c4, hbt, f2, f3, f4⟩ := hnt.cells
    have HN := hid hnt
    have HVF := hid hvf
    clear hvf hnt
    rcases k with _ | k
    · have hk0 : (((0 : Nat) : Int) - 1) = -1 := by omega
      rw [hk0]
      have HS0 : Hid (s = varsFrom 3 (laW m) ([], [])) := hid HVF.out
      clear HVF
      go_wp2_with fail
      obtain ⟨s0, hs0'⟩ : ∃ s0, s = s0 := ⟨_, rfl⟩
      rw [hs0'] at HS0 HN hln hgl c2
      clear hs0'
      obtain ⟨Ws, hWs⟩ : ∃ Ws, wr = Ws := ⟨_, rfl⟩
      go_loopw [7] (fun t wr => ∃ (k : Nat) (s : List Int × GS) (F : Dom) (A : Option Addr) (c : Nat), k ≤ inW m ∧ t = .int .i64 ((k : Int) - 1) ∧ varsFrom 2 k s = varsFrom 2 (inW m) s0 ∧ s.1.length + k = laW m + inW m ∧ s.2.length ≤ s.1.length ∧
          NT W0 wr (w.heap.size + 1 + 1 + 1) (w.heap.size + 1 + 1) m.start s.1 s.2 F A c 0 none 0 []) (fun t _ => (intOf t + 1).toNat)
      case atStart => exact ⟨inW m, s0, _, _, _, Nat.le_refl _, rfl, rfl, by omega, hgl, HN.out⟩
      case round =>
        obtain ⟨k, s, F, A, c, hk, rfl, hvf, hln, hgl, hnt⟩ := hrel
        obtain ⟨c0, c1, c2, c3, c4, hbt, f2, f3, f4⟩ := hnt.cells
        have HN := hid hnt
        have HVF := hid hvf
        clear hvf hnt
        rcases k with _ | k
        · have hk0 : (((0 : Nat) : Int) - 1) = -1 := by omega
          rw [hk0]
          have HS1 : Hid (s = varsFrom 2 (inW m) s0) := hid HVF.out
          obtain ⟨N, hN⟩ : ∃ N : Nat, N = 2 ^ s.1.length := ⟨_, rfl⟩
          have hN32 : N ≤ 4294967296 := by rw [hN]; exact two_le (by omega)
          have hpw : wrap64 (2 ^ s.1.length) = (N : Int) := by rw [hN]; exact wrap_two _ (by omega)
          have HNN := hid hN
          have HPW := hid hpw
          clear HVF hN hpw
          go_wp2_with fail
          rw [HPW.out]
          refine wp_gen fun W3 hW3 => ?_
          have hN3 : NT W0 W3 (w.heap.size + 1 + 1 + 1) (w.heap.size + 1 + 1) m.start s.1 s.2 F A c N none 0 [] := by rw [hW3]; exact HN.out.rows N
          have HN3 := hid hN3
          obtain ⟨M, hM⟩ : ∃ M : Nat, M = 2 ^ inW m := ⟨_, rfl⟩
          have hM16 : M ≤ 4294967296 := by rw [hM]; exact two_le (by omega)
          have hM1 : 1 ≤ M := by rw [hM]; exact Nat.one_le_two_pow
          have hpmw : wrap64 (M : Int) = (M : Int) := (wrap_small hM16).1
          have hpm1 : wrap64 ((M : Int) - 1) = (M : Int) - 1 := (wrap_small hM16).2
          have hpm2 : ((2 : Int) ^ inW m) = (M : Int) := by
            have h2 := two_nat (inW m)
            rw [← hM] at h2
            exact h2
          have HMM := hid hM
          have HP1 := hid hpmw
          have HP2 := hid hpm1
          have HP3 := hid hpm2
          clear hpmw hpm1 hpm2 hN3 hW3 hM c0 c1 c2 c3 c4 f2 f3 f4
          go_loopw [83] (fun t wr => ∃ (k : Nat) (F : Dom) (R : Option Addr) (rc : Nat) (prs : List (Int × Int)), k ≤ N ∧ t = .int .i64 (k : Int) ∧ prs = pairsTo m k ∧ prs.length = k ∧ NT W0 wr (w.heap.size + 1 + 1 + 1) (w.heap.size + 1 + 1) m.start s.1 s.2 F A c N R rc prs) (fun t _ => N - (intOf t).toNat)
          case atStart => exact ⟨0, F, none, 0, [], Nat.zero_le _, rfl, rfl, rfl, HN3.out⟩
          case round =>
            obtain ⟨k, F, R, rc, prs, hk, rfl, hprs, hpl, hnt⟩ := hrel
            obtain ⟨c0, c1, c2, c3, c4, hbt, f2, f3, f4⟩ := hnt.cells
            have HN4 := hid hnt
            have HPRS := hid hprs
            have HPL := hid hpl
            have hpn : prs.length ≤ 4294967296 := by omega
            clear hnt hprs hpl
            by_cases hlt : k < N
            · obtain ⟨q, hq⟩ : ∃ q : Nat, q = k / M := ⟨_, rfl⟩
              obtain ⟨r, hr⟩ : ∃ r : Nat, r = k % M := ⟨_, rfl⟩
              have hq2 : (k : Int) / (M : Int) = (q : Int) := by rw [hq]; simp
              have hr2 : bits .and .i64 (k : Int) ((M : Int) - 1) = (r : Int) := by rw [hr, HMM.out]; exact i64_and_mask k _ (by omega) (by omega)
              have HP : Hid (pairN m k = if (q : Int) < m.out.length ∧ (r : Int) < m.ins then (codeZ m.start q, (r : Int)) else (-1, 0)) := hid (by unfold pairN; rw [← HMM.out, ← hq, ← hr])
              have HQ := hid hq2
              have HR2 := hid hr2
              clear hq hr hq2 hr2
              go_wp2_with fail
              go_quiet (fail)
              rw [HP3.out, HP1.out, HP2.out, HQ.out, HR2.out]
              obtain ⟨W4, hW4⟩ : ∃ W4, W4 = (wr.alloc (.cells #[.int .i64 (-1), .int .i64 0] 74)).drewN nq := ⟨_, rfl⟩
              have hb4 : Below wr.heap.size wr W4 := by rw [hW4]; exact below_drewN (by go_grown) _
              have hn4 := HN4.out.below hb4
              have hbk : W4.heap[wr.heap.size]? = some (.cells #[.int .i64 (-1), .int .i64 0] 74 (0, 0)) := by rw [hW4]; exact heap_alloc_new wr _
              have HBK := hid hbk
              have hp4 : Box W4 wr.heap.size #[.int .i64 (-1), .int .i64 0] := by rw [hW4]; exact (Box.new wr _ _ rfl).drewN nq
              have hx4 : Box W4 w.heap.size #[.int .i64 m.ins, .int .i64 m.outs, .int .i64 m.start, .slice Ao m.out.length co, .slice An m.next.length cn] := HB0.out.below hn4.bel (Nat.le_refl _)
              have hfz : W4.frozen? ⟨wr.heap.size, 0, none⟩ = false ∧ W4.frozen? ⟨wr.heap.size, 1, none⟩ = false := by
                rw [hW4]
                exact ⟨block_free (heap_alloc_new wr _), block_free (heap_alloc_new wr _)⟩
              rw [← hW4]
              have x0 := hx4 0 _ rfl
              have x3 := hx4 3 _ rfl
              have p0 := hp4 0 _ rfl
              have p1 := hp4 1 _ rfl
              obtain ⟨fz0, fz1⟩ := hfz
              obtain ⟨c0, c1, c2, c3, c4, hbt4, -, -, f4⟩ := hn4.cells
              have HN5 := hid hn4
              have HB4 := hid hb4
              have HX4 := hid hx4
              clear hW4 hb4 hn4 hp4 hx4 c2 c3 hbk
              by_cases q1 : (q : Int) < m.out.length
              · by_cases r1 : (r : Int) < m.ins
                · have HPP : Hid (pairN m k = (codeZ m.start q, (r : Int))) := hid (by rw [HP.out, if_pos ⟨q1, r1⟩])
                  have d1 : decide ((q : Int) < m.out.length) = true := decide_eq_true q1
                  have d2 : decide ((r : Int) < m.ins) = true := decide_eq_true r1
                  go_wp2_with fail
                  refine (code_any W4 _ m.start q c1).mono ?_
                  rintro e w5 ⟨rfl, rfl⟩
                  go_wp2_with fail
                  refine wp_gen fun V hV => ?_
                  have hbV : Below wr.heap.size wr V := by rw [hV]; exact ((HB4.out).setCell (Nat.le_refl _) _).setCell (Nat.le_refl _) _
                  have hkV : V.heap[wr.heap.size]? = some (.cells #[.int .i64 (codeZ m.start q), .int .i64 r] 74 (0, 0)) := by rw [hV]; exact set_block (set_block HBK.out (i := 0) _) (i := 1) _
                  have hnV := HN4.out.below hbV
                  have p0 := block_cell hkV (i := 0) rfl
                  have p1 := block_cell hkV (i := 1) rfl
                  have v4 := hnV.cells.2.2.2.2.1
                  have hvs : wr.heap.size < V.heap.size := lt_of_block hkV
                  have hvb := hnV.cells.2.2.2.2.2.1
                  have HNV := hid hnV
                  clear hV hbV hkV hnV
                  go_region_law
                    ((refine step_append_rd _ (by rfl) _ _ 61 (by rfl) W0.heap.size 74 i9 _ 2 16 Try.underlying61 hj hy0 hy1 hy2 rfl (by omega) (.slice R prs.length rc) prs.length _ (by rfl) (HNV.out.below (by go_grown)).rown _ (some ⟨V.heap.size, 0, none⟩) 1 1 _ (by rfl) (Rd.cell2 (cell_new V.drew _ _ _ _ _ rfl rfl) (cell_new V.drew _ _ _ _ _ rfl rfl)) (by simp [Value.oneCell']) (by omega) (maxLen_le (by omega)) (by simp; exact Nat.le_succ_of_le HNV.out.bsz) ?_
                      intro A5 c5 w6 hown5 hg5 hat5
                      obtain ⟨e2, e2f⟩ := (HNV.out.below (by go_grown)).row_cell hg5))
                  all_goals
                    have HN6 := hid ((HNV.out.below (by go_grown)).row (codeZ m.start q, (r : Int)) hg5 (by simpa [pcells] using hown5) hat5)
                    clear hown5 hg5 hat5 e2 e2f
                    go_wp2_with fail
                    go_roundw
                    case rel => exact ⟨k + 1, F, A5, c5, prs ++ [(codeZ m.start q, (r : Int))], by omega, by go_num, by rw [HPRS.out, pairsTo_succ, HPP.out], by simp [HPL.out], HN6.out⟩
                    case measure => simp [intOf]; omega
                · have HPP : Hid (pairN m k = (-1, 0)) := hid (by rw [HP.out, if_neg (by omega)])
                  have d1 : decide ((q : Int) < m.out.length) = true := decide_eq_true q1
                  have d2 : decide ((r : Int) < m.ins) = false := decide_eq_false r1
                  go_wp2_with fail
                  refine wp_gen fun V hV => ?_
                  have hbV : Below wr.heap.size wr V := by rw [hV]; exact HB4.out
                  have hkV : V.heap[wr.heap.size]? = some (.cells #[.int .i64 (-1), .int .i64 0] 74 (0, 0)) := by rw [hV]; exact HBK.out
                  have hnV := HN4.out.below hbV
                  have p0 := block_cell hkV (i := 0) rfl
                  have p1 := block_cell hkV (i := 1) rfl
                  have v4 := hnV.cells.2.2.2.2.1
                  have hvs : wr.heap.size < V.heap.size := lt_of_block hkV
                  have hvb := hnV.cells.2.2.2.2.2.1
                  have HNV := hid hnV
                  clear hV hbV hkV hnV
                  go_region_law
                    ((refine step_append_rd _ (by rfl) _ _ 61 (by rfl) W0.heap.size 74 i9 _ 2 16 Try.underlying61 hj hy0 hy1 hy2 rfl (by omega) (.slice R prs.length rc) prs.length _ (by rfl) (HNV.out.below (by go_grown)).rown _ (some ⟨V.heap.size, 0, none⟩) 1 1 _ (by rfl) (Rd.cell2 (cell_new V.drew _ _ _ _ _ rfl rfl) (cell_new V.drew _ _ _ _ _ rfl rfl)) (by simp [Value.oneCell']) (by omega) (maxLen_le (by omega)) (by simp; exact Nat.le_succ_of_le HNV.out.bsz) ?_
                      intro A5 c5 w6 hown5 hg5 hat5
                      obtain ⟨e2, e2f⟩ := (HNV.out.below (by go_grown)).row_cell hg5))
                  all_goals
                    have HN6 := hid ((HNV.out.below (by go_grown)).row (-1, 0) hg5 (by simpa [pcells] using hown5) hat5)
                    clear hown5 hg5 hat5 e2 e2f
                    go_wp2_with fail
                    go_roundw
                    case rel => exact ⟨k + 1, F, A5, c5, prs ++ [(-1, 0)], by omega, by go_num, by rw [HPRS.out, pairsTo_succ, HPP.out], by simp [HPL.out], HN6.out⟩
                    case measure => simp [intOf]; omega
              · have HPP : Hid (pairN m k = (-1, 0)) := hid (by rw [HP.out, if_neg (by omega)])
                have d1 : decide ((q : Int) < m.out.length) = false := decide_eq_false q1
                go_wp2_with fail
                refine wp_gen fun V hV => ?_
                have hbV : Below wr.heap.size wr V := by rw [hV]; exact HB4.out
                have hkV : V.heap[wr.heap.size]? = some (.cells #[.int .i64 (-1), .int .i64 0] 74 (0, 0)) := by rw [hV]; exact HBK.out
                have hnV := HN4.out.below hbV
                have p0 := block_cell hkV (i := 0) rfl
                have p1 := block_cell hkV (i := 1) rfl
                have v4 := hnV.cells.2.2.2.2.1
                have hvs : wr.heap.size < V.heap.size := lt_of_block hkV
                have hvb := hnV.cells.2.2.2.2.2.1
                have HNV := hid hnV
                clear hV hbV hkV hnV
                go_region_law
                  ((refine step_append_rd _ (by rfl) _ _ 61 (by rfl) W0.heap.size 74 i9 _ 2 16 Try.underlying61 hj hy0 hy1 hy2 rfl (by omega) (.slice R prs.length rc) prs.length _ (by rfl) (HNV.out.below (by go_grown)).rown _ (some ⟨V.heap.size, 0, none⟩) 1 1 _ (by rfl) (Rd.cell2 (cell_new V.drew _ _ _ _ _ rfl rfl) (cell_new V.drew _ _ _ _ _ rfl rfl)) (by simp [Value.oneCell']) (by omega) (maxLen_le (by omega)) (by simp; exact Nat.le_succ_of_le HNV.out.bsz) ?_
                    intro A5 c5 w6 hown5 hg5 hat5
                    obtain ⟨e2, e2f⟩ := (HNV.out.below (by go_grown)).row_cell hg5))
                all_goals
                  have HN6 := hid ((HNV.out.below (by go_grown)).row (-1, 0) hg5 (by simpa [pcells] using hown5) hat5)
                  clear hown5 hg5 hat5 e2 e2f
                  go_wp2_with fail
                  go_roundw
                  case rel => exact ⟨k + 1, F, A5, c5, prs ++ [(-1, 0)], by omega, by go_num, by rw [HPRS.out, pairsTo_succ, HPP.out], by simp [HPL.out], HN6.out⟩
                  case measure => simp [intOf]; omega
            · have hkN : k = N := by omega
              have hsn : newVars m = s := by unfold newVars; rw [← HS0.out]; exact HS1.out.symm
              have hln2 : s.1.length = laW m + inW m := by omega
              have hNN : N = 2 ^ (laW m + inW m) := by rw [HNN.out, hln2]
              have hfin : NT W0 wr (w.heap.size + 1 + 1 + 1) (w.heap.size + 1 + 1) m.start (newVars m).1 (newVars m).2 F A c ((2 ^ (laW m + inW m) : Nat) : Int) R rc (pairsTo m (2 ^ (laW m + inW m))) := by
                rw [hsn, ← hNN, ← hkN, ← HPRS.out, hkN]
                exact HN4.out
              have HFIN := hid hfin
              have HSN := hid hsn
              clear hfin hsn hkN hNN hln2
              go_wp2_with fail
              go_ret
              refine ⟨W0, _, _, F, A, c, R, rc, rfl, by omega, HBL0.out.trans (HFIN.out.bel.mono (by omega)), by rw [HSN.out]; omega, by rw [HSN.out]; omega, HFIN.out⟩
        · have hk1 : ((k + 1 : Nat) : Int) - 1 = (k : Int) := by omega
          have hk2 : (k : Int) ≥ 0 := by omega
          rw [hk1]
          go_wp2_with fail
          go_region_law
            (first
              | (go_simp
                 go_at_call 50
                 refine (add_any _ _ s.2 F ⟨2, k, 0⟩ (HN.out.below (by go_grown)).gat (by omega)).mono ?_
                 rintro e w1 ⟨rfl, hp1⟩
                 obtain ⟨F1, hn1⟩ := (HN.out.below (by go_grown)).gates hp1
                 obtain ⟨d0, d1, d2, d3, d4, hbt1, g2, g3, g4⟩ := hn1.cells)
              | (refine step_append_rd _ (by rfl) _ _ 23 (by rfl) W0.heap.size 3 i0 _ 1 8 Try.underlying23 hi hz0 hz1 hz2 rfl (by omega) (.slice A s.1.length c) s.1.length _ (by rfl) (hn1.below (by go_grown)).own _ (some ⟨w1.heap.size, 0, none⟩) 1 1 _ (by rfl) (Rd.cell1 (cell_new w1 _ _ _ _ _ rfl rfl)) (by simp [Value.oneCell']) (by omega) (maxLen_le (by omega)) (by simp; exact Nat.le_succ_of_le hn1.bsz) ?_
                 intro A5 c5 w5 hown5 hg5 hat5
                 obtain ⟨e2, e2f⟩ := (hn1.below (by go_grown)).var_cell hg5))
          all_goals
            have HN5 := hid ((hn1.below (by go_grown)).var _ hg5 hown5 hat5)
            clear hn1 hp1 d0 d1 d2 d3 d4 g2 g3 g4 hown5 hg5 hat5 e2 e2f
            go_wp2_with fail
            go_roundw
            case rel => exact ⟨k, (s.1 ++ [(addG s.2 ⟨2, k, 0⟩).1], (addG s.2 ⟨2, k, 0⟩).2), F1, A5, c5, by omega, rfl, HVF.out, by simp; omega, by have := add_len s.2 ⟨2, k, 0⟩; simp; omega, HN5.out⟩
            case measure => simp [intOf]
    · have hk1 : ((k + 1 : Nat) : Int) - 1 = (k : Int) := by omega
      have hk2 : (k : Int) ≥ 0 := by omega
      rw [hk1]
      go_wp2_with fail
      go_region_law
        (first
          | (go_simp
             go_at_call 50
             refine (add_any _ _ s.2 F ⟨3, k, 0⟩ (HN.out.below (by go_grown)).gat (by omega)).mono ?_
             rintro e w1 ⟨rfl, hp1⟩
             obtain ⟨F1, hn1⟩ := (HN.out.below (by go_grown)).gates hp1
             obtain ⟨d0, d1, d2, d3, d4, hbt1, g2, g3, g4⟩ := hn1.cells)
          | (refine step_append_rd _ (by rfl) _ _ 23 (by rfl) W0.heap.size 3 i0 _ 1 8 Try.underlying23 hi hz0 hz1 hz2 rfl (by omega) (.slice A s.1.length c) s.1.length _ (by rfl) (hn1.below (by go_grown)).own _ (some ⟨w1.heap.size, 0, none⟩) 1 1 _ (by rfl) (Rd.cell1 (cell_new w1 _ _ _ _ _ rfl rfl)) (by simp [Value.oneCell']) (by omega) (maxLen_le (by omega)) (by simp; exact Nat.le_succ_of_le hn1.bsz) ?_
             intro A5 c5 w5 hown5 hg5 hat5
             obtain ⟨e2, e2f⟩ := (hn1.below (by go_grown)).var_cell hg5))
      all_goals
        have HN5 := hid ((hn1.below (by go_grown)).var _ hg5 hown5 hat5)
        clear hn1 hp1 d0 d1 d2 d3 d4 g2 g3 g4 hown5 hg5 hat5 e2 e2f
        go_wp2_with fail
        go_roundw
        case rel => exact ⟨k, (s.1 ++ [(addG s.2 ⟨3, k, 0⟩).1], (addG s.2 ⟨3, k, 0⟩).2), F1, A5, c5, by omega, rfl, HVF.out, by simp; omega, by have := add_len s.2 ⟨3, k, 0⟩; simp; omega, HN5.out⟩
        case measure => simp [intOf]
end Go.Proofs.Ytfabdpnjjondaaa
