/-
  Walk of Compile.
-/
import Derived.Test.YtfabdpnjjondaaaG16
import Derived.Deep.DeepMust
set_option linter.unusedVariables false
set_option linter.unusedSimpArgs false
namespace Go.Proofs.Ytfabdpnjjondaaa
open Go.RowKit
attribute [local go_sem] cell_alloc_old

theorem build_c0 (w : World) : (Instr.build 25 #[]).run Try.prog w = .ok (.agg #[.int .i64 0, .slice none 0 0, .slice none 0 0, .slice none 0 0]) w := run_build w 25 _ _ (by kernel_rfl)
attribute [local go_sem] build_c0
theorem RdC.empty (w : World) (D : Dom) : RdC w D (.agg #[.int .i64 0, .slice none 0 0, .slice none 0 0, .slice none 0 0]) ⟨0, [], [], []⟩ :=
  ⟨none, 0, none, 0, none, 0, rfl, Rd.nil w D 3 none (by omega), RdI.nil w D none (by omega), RdI.nil w D none (by omega)⟩

set_option maxHeartbeats 1000000 in
theorem compile_no {D : Dom} (w : World) (v : Value) (m : Mly) (hv : RdM w D v m) (hE : compileE m ≠ 0) (hol : m.out.length ≤ 1000000) :
    Calls Try.prog 19 #[v] w fun e w' => e = .returned (.tuple #[.agg #[.int .i64 0, .slice none 0 0, .slice none 0 0, .slice none 0 0], .int .i64 (compileE m)]) ∧ Below w.heap.size w w' := by
  have HV := hid hv.old
  obtain ⟨Ao, co, An, cn, rfl, hro, -⟩ := hv
  have hn := hro.len.1
  clear hro
  have HE := hid hE
  clear hE
  by_cases hm : mealyB m = true
  · have hs := sized_of hm
    have h5 : 512 < (m.out.length : Int) * m.ins := by
      have := HE.out
      unfold compileE at this
      rw [if_pos hm] at this
      by_cases h : 512 < (m.out.length : Int) * m.ins
      · exact h
      · rw [if_neg h] at this; exact absurd rfl this
    have HC : Hid (compileE m = 2) := hid (by unfold compileE; rw [if_pos hm, if_pos h5])
    have hi1 := hs.i1
    have hi2 := hs.i2
    have hp : (m.out.length : Int) * m.ins ≤ 64000000 := by
      have : (m.out.length : Int) * m.ins ≤ 1000000 * 64 := Int.mul_le_mul (by omega) hi2 (by omega) (by omega)
      omega
    obtain ⟨p, hpe⟩ : ∃ p, (m.out.length : Int) * m.ins = p := ⟨_, rfl⟩
    rw [hpe] at h5 hp
    have hw : wrap64 ((m.out.length : Int) * m.ins) = p := by rw [hpe]; exact IntWalk.wrap64_in _ (by omega)
    have hd : decide (512 < p) = true := decide_eq_true h5
    have HM := hid hm
    have HW := hid hw
    clear hs hm hpe hw
    go_enter Try.func19, Try.ntmps19
    go_wp2_with fail
    refine (mvalid_any _ m _ (HV.out.keep (((Keeps.refl _ w).alloc _).alloc _))).mono ?_
    rintro e w1 ⟨rfl, hb1⟩
    rw [HM.out]
    have hbx : Box w1 w.heap.size #[.int .i64 m.ins, .int .i64 m.outs, .int .i64 m.start, .slice Ao m.out.length co, .slice An m.next.length cn] := (((Box.new _ _ _ rfl).alloc _)).below hb1 (Nat.le_refl _)
    have x0 := hbx 0 _ rfl
    have x3 := hbx 3 _ rfl
    have hrs : w1.heap[w.heap.size + 1]? = some (.cells #[.int .i64 0, .slice none 0 0, .slice none 0 0, .slice none 0 0] 25 (0, 0)) := by
      rw [hb1.block _ (by simp)]
      have := heap_alloc_new (w.alloc (.cells #[.int .i64 m.ins, .int .i64 m.outs, .int .i64 m.start, .slice Ao m.out.length co, .slice An m.next.length cn] 35)) (.cells #[.int .i64 0, .slice none 0 0, .slice none 0 0, .slice none 0 0] 25)
      rw [World.size_alloc] at this
      exact this
    have y0 := block_cell hrs (i := 0) rfl
    have y1 := block_cell hrs (i := 1) rfl
    have y2 := block_cell hrs (i := 2) rfl
    have y3 := block_cell hrs (i := 3) rfl
    have z0 := block_free hrs (i := 0)
    have z1 := block_free hrs (i := 1)
    have z2 := block_free hrs (i := 2)
    have z3 := block_free hrs (i := 3)
    have hbw : Below w.heap.size w w1 := (((Below.refl _ _).alloc (Nat.le_refl _) _).alloc (by simp) _).trans (hb1.mono (by simp; omega))
    have HRS := hid hrs
    have hw := HW.out
    clear hbx hb1 hrs
    go_wp2_with fail
    refine bodyPost_gen fun W hW => ?_
    have hb : W.heap[w.heap.size + 1]? = some (.cells #[.int .i64 0, .slice none 0 0, .slice none 0 0, .slice none 0 0] 25 (0, 0)) := by
      rw [hW, set_block (set_block (set_block (set_block HRS.out _) _) _) _]; rfl
    have p0 := block_cell hb (i := 0) rfl
    have p1 := block_cell hb (i := 1) rfl
    have p2 := block_cell hb (i := 2) rfl
    have p3 := block_cell hb (i := 3) rfl
    have hbw2 : Below w.heap.size w W := by
      rw [hW]
      exact (((hbw.setCell (p := ⟨w.heap.size + 1, 0, none⟩) (by simp) _).setCell (p := ⟨w.heap.size + 1, 1, none⟩) (by simp) _).setCell (p := ⟨w.heap.size + 1, 2, none⟩) (by simp) _).setCell (p := ⟨w.heap.size + 1, 3, none⟩) (by simp) _
    clear hW hb
    refine bodyPost_ret (v := .tuple #[.agg #[.int .i64 0, .slice none 0 0, .slice none 0 0, .slice none 0 0], .int .i64 2]) (by simp [results, Try.results19, go_sem, p0, p1, p2, p3]) rfl ⟨?_, hbw2⟩
    rw [HC.out]
  · have HC : Hid (compileE m = 1) := hid (by unfold compileE; rw [if_neg hm])
    have HM := hid (Bool.eq_false_iff.2 hm)
    clear hm
    go_enter Try.func19, Try.ntmps19
    go_wp2_with fail
    refine (mvalid_any _ m _ (HV.out.keep (((Keeps.refl _ w).alloc _).alloc _))).mono ?_
    rintro e w1 ⟨rfl, hb1⟩
    rw [HM.out]
    have hbx : Box w1 w.heap.size #[.int .i64 m.ins, .int .i64 m.outs, .int .i64 m.start, .slice Ao m.out.length co, .slice An m.next.length cn] := (((Box.new _ _ _ rfl).alloc _)).below hb1 (Nat.le_refl _)
    have x0 := hbx 0 _ rfl
    have x3 := hbx 3 _ rfl
    have hrs : w1.heap[w.heap.size + 1]? = some (.cells #[.int .i64 0, .slice none 0 0, .slice none 0 0, .slice none 0 0] 25 (0, 0)) := by
      rw [hb1.block _ (by simp)]
      have := heap_alloc_new (w.alloc (.cells #[.int .i64 m.ins, .int .i64 m.outs, .int .i64 m.start, .slice Ao m.out.length co, .slice An m.next.length cn] 35)) (.cells #[.int .i64 0, .slice none 0 0, .slice none 0 0, .slice none 0 0] 25)
      rw [World.size_alloc] at this
      exact this
    have y0 := block_cell hrs (i := 0) rfl
    have y1 := block_cell hrs (i := 1) rfl
    have y2 := block_cell hrs (i := 2) rfl
    have y3 := block_cell hrs (i := 3) rfl
    have z0 := block_free hrs (i := 0)
    have z1 := block_free hrs (i := 1)
    have z2 := block_free hrs (i := 2)
    have z3 := block_free hrs (i := 3)
    have hbw : Below w.heap.size w w1 := (((Below.refl _ _).alloc (Nat.le_refl _) _).alloc (by simp) _).trans (hb1.mono (by simp; omega))
    have HRS := hid hrs
    clear hbx hb1 hrs
    go_wp2_with fail
    refine bodyPost_gen fun W hW => ?_
    have hb : W.heap[w.heap.size + 1]? = some (.cells #[.int .i64 0, .slice none 0 0, .slice none 0 0, .slice none 0 0] 25 (0, 0)) := by
      rw [hW, set_block (set_block (set_block (set_block HRS.out _) _) _) _]; rfl
    have p0 := block_cell hb (i := 0) rfl
    have p1 := block_cell hb (i := 1) rfl
    have p2 := block_cell hb (i := 2) rfl
    have p3 := block_cell hb (i := 3) rfl
    have hbw2 : Below w.heap.size w W := by
      rw [hW]
      exact (((hbw.setCell (p := ⟨w.heap.size + 1, 0, none⟩) (by simp) _).setCell (p := ⟨w.heap.size + 1, 1, none⟩) (by simp) _).setCell (p := ⟨w.heap.size + 1, 2, none⟩) (by simp) _).setCell (p := ⟨w.heap.size + 1, 3, none⟩) (by simp) _
    clear hW hb
    refine bodyPost_ret (v := .tuple #[.agg #[.int .i64 0, .slice none 0 0, .slice none 0 0, .slice none 0 0], .int .i64 1]) (by simp [results, Try.results19, go_sem, p0, p1, p2, p3]) rfl ⟨?_, hbw2⟩
    rw [HC.out]

set_option maxHeartbeats 8000000 in
theorem compile_ok {D : Dom} (w : World) (v : Value) (m : Mly) (hv : RdM w D v m) (hE : compileE m = 0) :
    Calls Try.prog 19 #[v] w fun e w' => ∃ u, e = .returned (.tuple #[u, .int .i64 0]) ∧ Below w.heap.size w w' ∧ RdC w' (fun b => w.heap.size ≤ b) u (compileC m) := by
  have HV := hid hv.old
  obtain ⟨Ao, co, An, cn, rfl, hro, -⟩ := hv
  have hn := hro.len.1
  clear hro
  have hm : mealyB m = true := by
    unfold compileE at hE
    by_cases h : mealyB m = true
    · exact h
    · rw [if_neg h] at hE; cases hE
  have hs := sized_of hm
  have h5 : (m.out.length : Int) * m.ins ≤ 512 := by
    unfold compileE at hE
    rw [if_pos hm] at hE
    by_cases h : 512 < (m.out.length : Int) * m.ins
    · rw [if_pos h] at hE; cases hE
    · omega
  have hi1 := hs.i1
  have hi2 := hs.i2
  have ho1 := hs.o1
  have ho2 := hs.o2
  have hn1 := hs.n1
  have hn2 := hs.n2
  obtain ⟨wd1, wd2, wd3⟩ := widths_le hs
  have FEW := hid (few_of hs h5)
  have ROWS := rows_le hs h5
  have HS := hid hs
  obtain ⟨i0, hi, hz0, hz1, hz2⟩ := info_parts int_info
  have hz2' : i0.bytes = 8 := hz2
  have HW1 : Hid (∀ W, Calls Try.prog 38 #[.int .i64 m.outs] W fun e w' => e = .returned (.int .i64 (bitsN m.outs)) ∧ w' = W) := hid fun W => width_any m.outs W ho1 (by omega)
  have HW2 : Hid (∀ W, Calls Try.prog 38 #[.int .i64 m.out.length] W fun e w' => e = .returned (.int .i64 (laW m)) ∧ w' = W) := hid fun W => width_any m.out.length W (by omega) (by omega)
  have HW3 : Hid (∀ W, Calls Try.prog 38 #[.int .i64 m.ins] W fun e w' => e = .returned (.int .i64 (inW m)) ∧ w' = W) := hid fun W => width_any m.ins W hi1 (by omega)
  obtain ⟨p, hpe⟩ : ∃ p, (m.out.length : Int) * m.ins = p := ⟨_, rfl⟩
  rw [hpe] at h5
  have hp0 : 0 ≤ p := by rw [← hpe]; exact Int.mul_nonneg (by omega) (by omega)
  have hw : wrap64 ((m.out.length : Int) * m.ins) = p := by rw [hpe]; exact IntWalk.wrap64_in _ (by omega)
  have hd : decide (512 < p) = false := decide_eq_false (by omega)
  have HM := hid hm
  have HW := hid hw
  clear hs hm hpe hw hE
  go_enter Try.func19, Try.ntmps19
  go_wp2_with fail
  refine (mvalid_any _ m _ (HV.out.keep (((Keeps.refl _ w).alloc _).alloc _))).mono ?_
  rintro e w1 ⟨rfl, hb1⟩
  rw [HM.out]
  have hbx : Box w1 w.heap.size #[.int .i64 m.ins, .int .i64 m.outs, .int .i64 m.start, .slice Ao m.out.length co, .slice An m.next.length cn] := (((Box.new _ _ _ rfl).alloc _)).below hb1 (Nat.le_refl _)
  have x0 := hbx 0 _ rfl
  have x1 := hbx 1 _ rfl
  have x2 := hbx 2 _ rfl
  have x3 := hbx 3 _ rfl
  have x4 := hbx 4 _ rfl
  have hrs : w1.heap[w.heap.size + 1]? = some (.cells #[.int .i64 0, .slice none 0 0, .slice none 0 0, .slice none 0 0] 25 (0, 0)) := by
    rw [hb1.block _ (by simp)]
    have := heap_alloc_new (w.alloc (.cells #[.int .i64 m.ins, .int .i64 m.outs, .int .i64 m.start, .slice Ao m.out.length co, .slice An m.next.length cn] 35)) (.cells #[.int .i64 0, .slice none 0 0, .slice none 0 0, .slice none 0 0] 25)
    rw [World.size_alloc] at this
    exact this
  have hmb : w1.heap[w.heap.size]? = some (.cells #[.int .i64 m.ins, .int .i64 m.outs, .int .i64 m.start, .slice Ao m.out.length co, .slice An m.next.length cn] 35 (0, 0)) := by
    rw [hb1.block _ (by simp; omega), Below.heap_alloc _ _ _ (by simp)]
    exact heap_alloc_new w _
  have hbw : Below w.heap.size w w1 := (((Below.refl _ _).alloc (Nat.le_refl _) _).alloc (by simp) _).trans (hb1.mono (by simp; omega))
  have hsz1 : w.heap.size + 2 ≤ w1.heap.size := by have := hb1.size; simp at this; omega
  have HRS := hid hrs
  have HMB := hid hmb
  have HBW := hid hbw
  have hw := HW.out
  clear hbx hb1 hrs hmb hbw
  go_wp2_with fail
  refine (newTable_any _ _ m (HV.out.keep (Keeps.of_below HBW.out (fun _ h => h))) HM.out).mono ?_
  rintro e w2 ⟨W0, bt, bg, F0, A, c, R, rc, rfl, hW0, hb2, hvl, hgl, hnt⟩
  clear hw x0 x1 x2 x3 x4
  have hnt' : NT W0 w2 bt bg m.start (newVars m).1 (newVars m).2 F0 A c ((rowsM m : Nat) : Int) R rc (pairsTo m (rowsM m)) := hnt
  have hsz2 := hb2.size
  have hmb2 := (hb2.block _ (by omega)).trans HMB.out
  have hrs2 := (hb2.block _ (by omega)).trans HRS.out
  obtain ⟨w3, hw3⟩ : ∃ w3, w3 = w2.alloc (.cells #[.pointer (some ⟨bt, 0, none⟩)] 56) := ⟨_, rfl⟩
  have hs3 : w3.heap.size = w2.heap.size + 1 := by rw [hw3]; simp
  have hptr3 : w3.heap[w2.heap.size]? = some (.cells #[.pointer (some ⟨bt, 0, none⟩)] 56 (0, 0)) := by rw [hw3]; exact heap_alloc_new w2 _
  have hb3 : Below w2.heap.size w2 w3 := by rw [hw3]; go_grown
  have hcm : Cm w W0 m #[.int .i64 m.ins, .int .i64 m.outs, .int .i64 m.start, .slice Ao m.out.length co, .slice An m.next.length cn] bt bg w2.heap.size (w2.heap.size + 1) A c R rc w3 (newVars m).2 F0 := by
    refine ⟨(HBW.out.trans (hb2.mono (by omega))).trans (hb3.mono (by omega)), hnt'.below hb3, (hb3.block _ (by omega)).trans hmb2, (hb3.block _ (by omega)).trans hrs2, hptr3, fun hf => ?_, by omega, by omega, ?_, fun b e => ?_, fun b e => ?_, ?_, by omega⟩
    · have := hnt'.gat.lt hf; omega
    · have := lt_of_block hnt'.blk; omega
    · have := (hnt'.own.lt b e.symm).2; omega
    · have := (hnt'.rown.lt b e.symm).2; omega
    · have := hnt'.bsz; omega
  have y1 := block_cell hmb2 (i := 1) rfl
  have hwl : w.heap.size < w2.heap.size := by omega
  have HCM := hid hcm
  have HW3' := hid hw3
  clear hcm hw3 hnt hnt' hmb2 hrs2 hptr3 hb3 hs3 HMB HRS hgl
  go_wp2_with (go_at_call 38; refine (HW1.out _).mono ?_; rintro e w' ⟨rfl, rfl⟩)
  rw [← HW3'.out]
  go_loopw [5, 7, 26] (fun v5 _ t wr => ∃ (k : Nat) (F : Dom) (A5 : Option Addr) (c5 : Nat), k ≤ bitsN m.outs ∧ t = .int .i64 (k : Int) ∧ v5 = .slice A5 (outsTo' m k).1.length c5 ∧
    Cm w W0 m #[.int .i64 m.ins, .int .i64 m.outs, .int .i64 m.start, .slice Ao m.out.length co, .slice An m.next.length cn] bt bg w2.heap.size (w2.heap.size + 1) A c R rc wr (outsTo' m k).2 F ∧ Ow (w2.heap.size + 1) F wr A5 c5 (outsTo' m k).1) (fun _ _ t _ => bitsN m.outs - (intOf t).toNat)
  case atStart => exact ⟨0, F0, none, 0, Nat.zero_le _, rfl, rfl, HCM.out, Ow.nil _ _ _⟩
  case round =>
    obtain ⟨k, F, A5, c5, hk, rfl, hv5, hC, hO⟩ := hrel
    obtain ⟨s, hs⟩ : ∃ s, outsTo' m k = s := ⟨_, rfl⟩
    have hcol := outs_cols m 2048 (fun i => Nat.le_trans (blk_le _ _) ROWS) k
    rw [hs] at hC hO hcol hv5
    subst hv5
    have hcl := hcol.len
    have HCOL := hid hcol
    have HSS := hid hs
    have HC := hid hC
    have HO := hid hO
    have hptr := block_cell hC.ptr (i := 0) rfl
    have hbpr : w2.heap.size < wr.heap.size := lt_of_block hC.ptr
    have hsl : s.1.length ≤ 16 := by omega
    clear hs hcol hC hO hcl
    by_cases hlt : k < bitsN m.outs
    · --<<
      have hki : (k : Int) < bitsN m.outs := by omega
      obtain ⟨r, hr⟩ : ∃ r, buildG s.2 (outCells m k) (newVars m).1 = r := ⟨_, rfl⟩
      have hr1 : outsTo' m (k + 1) = (s.1 ++ [r.1], r.2) := by
        rw [← hr, ← HSS.out]; rfl
      have hfew : r.2.length ≤ 999000 := by
        have := FEW.out.1 (k + 1) (by omega)
        rw [hr1] at this
        exact this
      have hcall : ∀ WI, WI = wr.alloc (.cells #[.int .i64 k] 3) → Calls Try.prog 39 #[.pointer (some ⟨bt, 0, none⟩), .func (.func 40) #[] #[.pointer (some ⟨w.heap.size, 0, none⟩), .pointer (some ⟨wr.heap.size, 0, none⟩)]] WI fun e w' =>
          e = .returned (.int .i64 r.1) ∧ GPost WI bg F r.2 w' := by
        intro WI hWI
        have hbI : Below wr.heap.size wr WI := by rw [hWI]; go_grown
        have hCI := HC.out.after hbI
        have hib : WI.heap[wr.heap.size]? = some (.cells #[.int .i64 k] 3 (0, 0)) := by rw [hWI]; exact heap_alloc_new wr _
        have hNI : NT W0 WI bt bg m.start (newVars m).1 s.2 F A c (((pairsTo m (rowsM m)).length : Nat) : Int) R rc (pairsTo m (rowsM m)) := by
          rw [pairs_len]; exact hCI.nt
        have hvl := HCOL.out.pre.length_le
        have := column1_any (ib := inW m) (nl := laW m) (outVal m k) W0 WI bt bg w.heap.size wr.heap.size m.start (newVars m).1 s.2 F A c R rc (pairsTo m (rowsM m)) hNI HCOL.out.ok
          (fun j hj => ⟨(newVars_range m j hj).1, by have := (newVars_range m j hj).2; omega⟩) (by rw [pairs_len, (newVars_len m).1]; rfl) (by rw [pairs_len]; omega)
          (fun W hW j hj hp => by
            rw [pairs_len] at hj
            rw [pairs_get m hj] at hp ⊢
            obtain ⟨q0, q1, z0, z1⟩ := pairN_in HS.out hp
            have hor := HS.out.outr (pairN m j).1.toNat (pairN m j).2.toNat (by omega) (by omega)
            have hCW := hCI.after hW
            refine clo1_any W w.heap.size wr.heap.size k m _ _ _ (HV.out.keep (Keeps.of_below hCW.below (fun _ h => h))) (fun j u hu => block_cell hCW.box hu) (fun j u hu => block_cell ((hW.block _ (lt_of_block hib)).trans hib) hu) (by omega) q0 q1 z0 (by rw [hor.1]; exact z1) hor.2.1 (by omega))
          (fun j hj hp => bitZ_01 _ _) (by show (buildG s.2 (outCells m k) (newVars m).1).2.length ≤ _; rw [hr]; exact hfew)
        rw [show cellsOf (outVal m k) (pairsTo m (rowsM m)) = outCells m k from rfl, hr] at this
        exact this
      have HCALL := hid hcall
      have HR1 := hid hr1
      clear hr hcall hr1
      go_wp2_with fail
      refine (HCALL.out _ rfl).mono ?_
      rintro e w4 ⟨rfl, F4, hg4, hs4, hc4⟩
      have hC4 := (HC.out.after (w1 := wr.alloc (.cells #[.int .i64 k] 3)) (by go_grown)).gates hg4 hs4 hc4
      have hO4 := (HO.out.after (w1 := wr.alloc (.cells #[.int .i64 k] 3)) (by go_grown)).gates hs4 hc4
      have HC4 := hid hC4
      have HO4 := hid hO4
      have hB4 := hC4.Bs
      clear hg4 hs4 hc4 hC4 hO4
      go_wp2_with (at_builtin; go_must (refine wpList_append_rd _ rfl (.tmp 29) (.tmp 33) 23 rfl (w2.heap.size + 1) 3 i0 _ 1 8 Try.underlying23 hi hz0 hz1 hz2 rfl (by omega) (.slice A5 s.1.length c5) s.1.length _ rfl (HO4.out.own.alloc _) _ (some ⟨w4.heap.size, 0, none⟩) 1 1 _ rfl (Rd.cell1 (cell_new w4 _ _ _ _ _ rfl rfl)) (by simp [Value.oneCell']) (by omega) (maxLen_le (by omega)) (by simp; omega) ?_); intro A6 c6 w6 hown6 hg6 hat6)
      go_roundw
      case rel =>
        have hC5 := (HC4.out.after (w1 := w4.alloc (.cells #[.int .i64 r.1] 3)) (by go_grown)).push (HO4.out.after (by go_grown)) (Nat.le_refl _) hg6
        have hO5 := (HO4.out.after (w1 := w4.alloc (.cells #[.int .i64 r.1] 3)) (by go_grown)).push r.1 (fun b hb => by have := HC4.out.nt.gat.lt hb; simp; omega) hown6 hat6
        refine ⟨k + 1, F4, A6, c6, by omega, by go_num, by rw [HR1.out]; simp, ?_, ?_⟩
        · rw [HR1.out]; exact hC5
        · rw [HR1.out]; exact hO5
      case measure => simp [intOf]; omega
      -->>
    · obtain rfl : k = bitsN m.outs := by omega
      obtain ⟨wo, rfl⟩ : ∃ wo : World, wo = wr := ⟨_, rfl⟩
      have hso : s = outsM m := HSS.out.symm
      obtain ⟨B1, hB1⟩ : ∃ B1, B1 = wo.heap.size := ⟨_, rfl⟩
      have HB1 : Hid (w2.heap.size + 1 ≤ B1) := hid (by have := HC.out.Bs; omega)
      have OB : Hid (∀ b, some b = (Value.slice A5 s.1.length c5).ownBlock → b < B1) := hid fun b e => by have := (HO.out.own.lt b e.symm).2; omega
      have OL : Hid ((newVars m).2.length ≤ (outsM m).2.length) := hid (by rw [← hso]; exact HCOL.out.pre.length_le)
      have HSO := hid hso
      have HOC : Hid (Cols (inW m) (laW m) 2048 (newVars m).2 (bitsN m.outs) s) := HCOL
      have m3 := block_cell HC.out.box (i := 3) rfl
      have hwo : w.heap.size < wo.heap.size := by omega
      have HBB := hid hB1
      clear hso hB1 hptr
      go_wp2_with (go_at_call 38; refine (HW2.out _).mono ?_; rintro e w' ⟨rfl, rfl⟩)
      obtain ⟨A5o, rfl⟩ : ∃ A : Option Addr, A = A5 := ⟨_, rfl⟩
      go_loopw [6, 8, 40] (fun v6 _ t wr => ∃ (k : Nat) (F : Dom) (A6 : Option Addr) (c6 : Nat), k ≤ laW m ∧ t = .int .i64 (k : Int) ∧ v6 = .slice A6 (latsTo' m k).1.length c6 ∧
        Cm w W0 m #[.int .i64 m.ins, .int .i64 m.outs, .int .i64 m.start, .slice Ao m.out.length co, .slice An m.next.length cn] bt bg w2.heap.size (w2.heap.size + 1) A c R rc wr (latsTo' m k).2 F ∧ Ow (w2.heap.size + 1) F wr A5o c5 s.1 ∧ Ow B1 F wr A6 c6 (latsTo' m k).1 ∧ B1 ≤ wr.heap.size) (fun _ _ t _ => laW m - (intOf t).toNat)
      case atStart => exact ⟨0, F, none, 0, Nat.zero_le _, rfl, rfl, by have := HC.out; rw [HSO.out] at this; exact this, HO.out, Ow.nil _ _ _, Nat.le_of_eq HBB.out⟩
      case round =>
        obtain ⟨k, F, A6, c6, hk, rfl, hv6, hC, hP, hO, hB1r⟩ := hrel
        obtain ⟨so, rfl⟩ : ∃ so, so = s := ⟨_, rfl⟩
        obtain ⟨s, hs⟩ : ∃ s, latsTo' m k = s := ⟨_, rfl⟩
        have hcol := lats_cols m 2048 (fun i => Nat.le_trans (blk_le _ _) ROWS) (fun i => Nat.le_trans (blk_le _ _) ROWS) k
        rw [hs] at hC hO hcol hv6
        subst hv6
        have hcl := hcol.len
        have HCOL := hid hcol
        have HSS := hid hs
        have HC := hid hC
        have HO := hid hO
        have HP := hid hP
        have hptr := block_cell hC.ptr (i := 0) rfl
        have hbpr : w2.heap.size < wr.heap.size := lt_of_block hC.ptr
        have hsl : s.1.length ≤ 16 := by omega
        clear hs hcol hC hO hcl hP
        by_cases hlt : k < laW m
        · --<<
          have hki : (k : Int) < laW m := by omega
          obtain ⟨r, hr⟩ : ∃ r, buildG s.2 (latCells m k) (newVars m).1 = r := ⟨_, rfl⟩
          have hr1 : latsTo' m (k + 1) = (s.1 ++ [r.1], r.2) := by
            rw [← hr, ← HSS.out]; rfl
          have hfew : r.2.length ≤ 999000 := by
            have := FEW.out.2 (k + 1) (by omega)
            rw [hr1] at this
            exact this
          have hcall : ∀ WI, WI = wr.alloc (.cells #[.int .i64 k] 3) → Calls Try.prog 39 #[.pointer (some ⟨bt, 0, none⟩), .func (.func 41) #[] #[.pointer (some ⟨w2.heap.size, 0, none⟩), .pointer (some ⟨w.heap.size, 0, none⟩), .pointer (some ⟨wr.heap.size, 0, none⟩)]] WI fun e w' =>
              e = .returned (.int .i64 r.1) ∧ GPost WI bg F r.2 w' := by
            intro WI hWI
            have hbI : Below wr.heap.size wr WI := by rw [hWI]; go_grown
            have hCI := HC.out.after hbI
            have hib : WI.heap[wr.heap.size]? = some (.cells #[.int .i64 k] 3 (0, 0)) := by rw [hWI]; exact heap_alloc_new wr _
            have hNI : NT W0 WI bt bg m.start (newVars m).1 s.2 F A c (((pairsTo m (rowsM m)).length : Nat) : Int) R rc (pairsTo m (rowsM m)) := by
              rw [pairs_len]; exact hCI.nt
            have hvl := HCOL.out.pre.length_le
            have := column2_any (ib := inW m) (nl := laW m) (latVal m k) W0 WI bt bg w2.heap.size w.heap.size wr.heap.size m.start (newVars m).1 s.2 F A c R rc (pairsTo m (rowsM m)) hNI HCOL.out.ok
              (fun j hj => ⟨(newVars_range m j hj).1, by have := (newVars_range m j hj).2; have := OL.out; omega⟩) (by rw [pairs_len, (newVars_len m).1]; rfl) (by rw [pairs_len]; omega)
              (fun W hW j hj hp => by
                rw [pairs_len] at hj
                rw [pairs_get m hj] at hp ⊢
                obtain ⟨q0, q1, z0, z1⟩ := pairN_in HS.out hp
                have hor := HS.out.nextr (pairN m j).1.toNat (pairN m j).2.toNat (by omega) (by omega)
                have hcz := codeZ_range HS.out.s0 HS.out.s1 hor.2.1 hor.2.2
                have hnx := HS.out.nn
                have hCW := hCI.after hW
                exact clo2_any W w.heap.size wr.heap.size w2.heap.size bt k m _ _ _ (HV.out.keep (Keeps.of_below hCW.below (fun _ h => h))) (fun j u hu => block_cell hCW.box hu) (fun j u hu => block_cell ((hW.block _ (lt_of_block hib)).trans hib) hu) (fun j u hu => block_cell hCW.ptr hu) hCW.nt.cells.2.1 (by omega) q0 (by omega) z0 (by rw [hor.1]; exact z1) hcz.1 (by omega))
              (fun j hj hp => bitZ_01 _ _) (by show (buildG s.2 (latCells m k) (newVars m).1).2.length ≤ _; rw [hr]; exact hfew)
            rw [show cellsOf (latVal m k) (pairsTo m (rowsM m)) = latCells m k from rfl, hr] at this
            exact this
          have HCALL := hid hcall
          have HR1 := hid hr1
          clear hr hcall hr1
          go_wp2_with fail
          refine (HCALL.out _ rfl).mono ?_
          rintro e w4 ⟨rfl, F4, hg4, hs4, hc4⟩
          have hC4 := (HC.out.after (w1 := wr.alloc (.cells #[.int .i64 k] 3)) (by go_grown)).gates hg4 hs4 hc4
          have hB14 : B1 ≤ w4.heap.size := by have := hc4.size; simp at this; omega
          have hP4 := (HP.out.after (w1 := wr.alloc (.cells #[.int .i64 k] 3)) (by go_grown)).gates hs4 hc4
          have HP4 := hid hP4
          have hO4 := (HO.out.after (w1 := wr.alloc (.cells #[.int .i64 k] 3)) (by go_grown)).gates hs4 hc4
          have HC4 := hid hC4
          have HO4 := hid hO4
          have hB4 := hC4.Bs
          clear hg4 hs4 hc4 hC4 hO4 hP4
          go_wp2_with (at_builtin; go_must (refine wpList_append_rd _ rfl (.tmp 43) (.tmp 47) 23 rfl B1 3 i0 _ 1 8 Try.underlying23 hi hz0 hz1 hz2 rfl (by omega) (.slice A6 s.1.length c6) s.1.length _ rfl (HO4.out.own.alloc _) _ (some ⟨w4.heap.size, 0, none⟩) 1 1 _ rfl (Rd.cell1 (cell_new w4 _ _ _ _ _ rfl rfl)) (by simp [Value.oneCell']) (by omega) (maxLen_le (by omega)) (by simp; omega) ?_); intro A7 c7 w6 hown6 hg6 hat6)
          go_roundw
          case rel =>
            have hC5 := (HC4.out.after (w1 := w4.alloc (.cells #[.int .i64 r.1] 3)) (by go_grown)).push (HO4.out.after (by go_grown)) HB1.out hg6
            have hO5 := (HO4.out.after (w1 := w4.alloc (.cells #[.int .i64 r.1] 3)) (by go_grown)).push r.1 (fun b hb => by have := HC4.out.nt.gat.lt hb; simp; omega) hown6 hat6
            have hP5 := (HP4.out.after (w1 := w4.alloc (.cells #[.int .i64 r.1] 3)) (by go_grown)).agree (Chg.of_grown (F := fun b => some b = (Value.slice A6 s.1.length c6).ownBlock) hg6 (fun _ hk => hk.symm)) (fun b hb e => by
              have h1 := OB.out b e
              have h2 := (HO4.out.own.lt b hb.symm).1
              omega)
            refine ⟨k + 1, F4, A7, c7, by omega, by go_num, by rw [HR1.out]; simp, ?_, hP5, ?_, by have := hg6.size; simp at this; omega⟩
            · rw [HR1.out]; exact hC5
            · rw [HR1.out]; exact hO5
          case measure => simp [intOf]; omega
          -->>
        · obtain rfl : k = laW m := by omega
          have hcc : compileC m = usedC s.2 (inW m) s.1 so.1 := by
            unfold compileC
            rw [← HSO.out, show latsM m = latsTo' m (laW m) from rfl, HSS.out]
          have HCC := hid hcc
          have b0 := block_cell HC.out.box (i := 0) rfl
          have n0 := HC.out.nt.cells.1
          have hbr : w.heap.size < wr.heap.size := by omega
          have hdn := HC.out.nt.cells.2.2.2.2.2.1
          have HLM : Hid (s.2.length ≤ 999000) := hid (by have := FEW.out.2 (laW m) wd1; rw [HSS.out] at this; exact this)
          clear hcc
          go_wp2_with fail
          refine wp_region_still_tail 9 (by kernel_rfl) (by kernel_rfl) ?_
          simp only [List.take_succ_cons, List.take_zero, List.drop_succ_cons, List.drop_zero]
          (repeat still_step)
          still_call (HW3.out _)
          (repeat still_step)
          refine wpStill_nil ?_
          simp only [World.drew_eq]
          go_wp2_with fail
          have hC6 := HC.out.after (w1 := wr.drew) (by go_grown)
          have hP6 := HP.out.after (w1 := wr.drew) (by go_grown)
          have hO6 := HO.out.after (w1 := wr.drew) (by go_grown)
          refine (used_any (ib := inW m) (nl := laW m) (D := fun _ => True) wr.drew bg s.2 F (inW m : Int) A6 A5o c6 c5 s.1 so.1 hC6.nt.gat HCOL.out.ok (by have := HLM.out; omega) (Rd.own hO6.own (by omega) (fun _ _ => trivial)) (Rd.own hP6.own (by have := HOC.out.len; omega) (fun _ _ => trivial))
            (fun j hj => HCOL.out.rng j (by have := HCOL.out.len; omega)) (fun j hj => ?_) (by omega) (by have := HOC.out.len; omega)).mono ?_
          · have h1 := HOC.out.rng j (by have := HOC.out.len; omega)
            have h2 := HCOL.out.pre.length_le
            rw [← HSO.out] at h2
            exact ⟨h1.1, by omega⟩
          rintro e w5 ⟨u, rfl, hb5, hrd⟩
          have hC7 := hC6.after hb5
          have q0 := block_cell hC7.res (i := 0) rfl
          have q1 := block_cell hC7.res (i := 1) rfl
          have q2 := block_cell hC7.res (i := 2) rfl
          have q3 := block_cell hC7.res (i := 3) rfl
          have f0 := block_free hC7.res (i := 0)
          have f1 := block_free hC7.res (i := 1)
          have f2 := block_free hC7.res (i := 2)
          have f3 := block_free hC7.res (i := 3)
          have HC7 := hid hC7
          have HRD := hid hrd
          obtain ⟨Ag, cg, Al, cl, Ao', co', rfl, -, -, -⟩ := hrd
          clear hC6 hP6 hO6 hC7 hb5
          go_wp2_with fail
          refine bodyPost_gen fun W hW => ?_
          have hb : W.heap[w.heap.size + 1]? = some (.cells #[.int .i64 (usedC s.2 (inW m) s.1 so.1).ib, .slice Ag (usedC s.2 (inW m) s.1 so.1).gates.length cg, .slice Al (usedC s.2 (inW m) s.1 so.1).lat.length cl, .slice Ao' (usedC s.2 (inW m) s.1 so.1).outs.length co'] 25 (0, 0)) := by
            rw [hW, set_block (set_block (set_block (set_block HC7.out.res _) _) _) _]; rfl
          have p0 := block_cell hb (i := 0) rfl
          have p1 := block_cell hb (i := 1) rfl
          have p2 := block_cell hb (i := 2) rfl
          have p3 := block_cell hb (i := 3) rfl
          have hbw2 : Below w.heap.size w W := by
            rw [hW]
            exact (((HC7.out.below.setCell (p := ⟨w.heap.size + 1, 0, none⟩) (by simp) _).setCell (p := ⟨w.heap.size + 1, 1, none⟩) (by simp) _).setCell (p := ⟨w.heap.size + 1, 2, none⟩) (by simp) _).setCell (p := ⟨w.heap.size + 1, 3, none⟩) (by simp) _
          have hno : ¬ (fun b => wr.drew.heap.size ≤ b) (w.heap.size + 1) := by
            have h1 := HC.out.Bs
            have h2 := HC.out.Bl
            have h3 := HC.out.base
            show ¬ (wr.heap.size ≤ w.heap.size + 1)
            omega
          have hk : Keeps (fun b => wr.drew.heap.size ≤ b) w5 W := by
            rw [hW]
            exact ((((Keeps.refl _ _).set (p := ⟨w.heap.size + 1, 0, none⟩) hno _).set (p := ⟨w.heap.size + 1, 1, none⟩) hno _).set (p := ⟨w.heap.size + 1, 2, none⟩) hno _).set (p := ⟨w.heap.size + 1, 3, none⟩) hno _
          have hrw : RdC W (fun b => w.heap.size ≤ b) (.agg #[.int .i64 (usedC s.2 (inW m) s.1 so.1).ib, .slice Ag (usedC s.2 (inW m) s.1 so.1).gates.length cg, .slice Al (usedC s.2 (inW m) s.1 so.1).lat.length cl, .slice Ao' (usedC s.2 (inW m) s.1 so.1).outs.length co']) (compileC m) := by
            rw [HCC.out]
            exact (HRD.out.keep hk).mono (E := fun b => w.heap.size ≤ b) (fun b hb _ => by
              have h1 : wr.heap.size ≤ b := hb
              omega)
          have HRW := hid hrw
          have HBW2 := hid hbw2
          clear hW hb hk hrw hno hbw2
          exact bodyPost_ret (v := .tuple #[.agg #[.int .i64 (usedC s.2 (inW m) s.1 so.1).ib, .slice Ag (usedC s.2 (inW m) s.1 so.1).gates.length cg, .slice Al (usedC s.2 (inW m) s.1 so.1).lat.length cl, .slice Ao' (usedC s.2 (inW m) s.1 so.1).outs.length co'], .int .i64 0]) (by simp [results, Try.results19, go_sem, p0, p1, p2, p3]) rfl ⟨_, rfl, HBW2.out, HRW.out⟩

theorem compile_any {D : Dom} (w : World) (v : Value) (m : Mly) (hv : RdM w D v m) (hol : m.out.length ≤ 1000000) :
    Calls Try.prog 19 #[v] w fun e w' => ∃ u, e = .returned (.tuple #[u, .int .i64 (compileE m)]) ∧ Below w.heap.size w w' ∧ RdC w' (fun b => w.heap.size ≤ b) u (compileZ m) := by
  by_cases hE : compileE m = 0
  · refine (compile_ok w v m hv hE).mono ?_
    rintro e w' ⟨u, rfl, h1, h2⟩
    unfold compileZ
    rw [if_pos hE, hE]
    exact ⟨u, rfl, h1, h2⟩
  · refine (compile_no w v m hv hE hol).mono ?_
    rintro e w' ⟨rfl, h1⟩
    unfold compileZ
    rw [if_neg hE]
    exact ⟨_, rfl, h1, RdC.empty _ _⟩
end Go.Proofs.Ytfabdpnjjondaaa
