/-
  Walk of the law CircuitSame.
-/
import Derived.Test.YtfabdpnjjondaaaM2
import Derived.Test.YtfabdpnjjondaaaP13
import Derived.StillTailTactics
set_option linter.unusedVariables false
set_option linter.unusedSimpArgs false
namespace Go.Proofs.Ytfabdpnjjondaaa
open Go.RowKit
attribute [local go_sem] cell_alloc_old

theorem cells8_below {w' w'' : World} {p0 p1 p2 p3 p4 p5 p6 p7 : Addr} {x0 x1 x2 x3 x4 x5 x6 x7 : Value}
    (h : w'.cell? p0 = some x0 ∧ w'.cell? p1 = some x1 ∧ w'.cell? p2 = some x2 ∧ w'.cell? p3 = some x3 ∧ w'.cell? p4 = some x4 ∧ w'.cell? p5 = some x5 ∧ w'.cell? p6 = some x6 ∧ w'.cell? p7 = some x7) (hb : Below w'.heap.size w' w'') : w''.cell? p0 = some x0 ∧ w''.cell? p1 = some x1 ∧ w''.cell? p2 = some x2 ∧ w''.cell? p3 = some x3 ∧ w''.cell? p4 = some x4 ∧ w''.cell? p5 = some x5 ∧ w''.cell? p6 = some x6 ∧ w''.cell? p7 = some x7 := by
  obtain ⟨h0, h1, h2, h3, h4, h5, h6, h7⟩ := h
  have key : ∀ p u, w'.cell? p = some u → w''.cell? p = some u := fun p u h => (hb.cell (p := p) (World.block_lt_of_cell? w' _ h)).trans h
  exact ⟨key _ _ h0, key _ _ h1, key _ _ h2, key _ _ h3, key _ _ h4, key _ _ h5, key _ _ h6, key _ _ h7⟩

theorem rows_info : (Try.prog.info? 23).map (fun i => (i.zero, i.size, i.bytes)) = some (some (.slice none 0 0), 1, 24) := by kernel_rfl

set_option maxRecDepth 100000 in
set_option maxHeartbeats 8000000 in
theorem law5_any {D E : Dom} (w : World) (v : Value) (m : Mly) (A : Option Addr) (ca : Nat) (ins : List Int) (h : RdM w D v m) (hi : RdI w E A ca ins) :
    Calls Try.prog 7 #[v, .slice A ins.length ca] w fun e w' => e = .returned (.bool true) ∧ Below w.heap.size w w' := by
  obtain ⟨i0, hti, hz0, hz1, hz2⟩ := info_parts int_info
  obtain ⟨i1, htr, hy0, hy1, hy2⟩ := info_parts rows_info
  have HV := hid h.old
  have HI := hid hi.old
  have hni := hi.len.1
  obtain ⟨Ao, co, An, cn, rfl, ho, hn⟩ := h
  have hlo := ho.len.1
  have hln := hn.len.1
  have HNX := hid hn.old
  have HOX := hid ho.old
  clear ho hn hi
  go_enter Try.func7, Try.ntmps7
  go_wp2_with fail
  refine (head_any _).mono ?_
  rintro e w1 ⟨rfl, hb⟩
  have hs : Bm w m Ao co An cn w1 :=
    Bm.below (w' := w.alloc (.cells #[.int .i64 m.ins, .int .i64 m.outs, .int .i64 m.start, .slice Ao m.out.length co, .slice An m.next.length cn] 35)) ⟨by go_grown, Box.new _ _ _ rfl⟩ hb
  have hbx : w1.heap[w.heap.size]? = some (.cells #[.int .i64 m.ins, .int .i64 m.outs, .int .i64 m.start, .slice Ao m.out.length co, .slice An m.next.length cn] 35 (0, 0)) := (hb.block _ (by simp)).trans (heap_alloc_new w _)
  have HS := hid hs
  have HBX := hid hbx
  have x0 := hs.2 0 _ rfl
  have x1 := hs.2 1 _ rfl
  have x2 := hs.2 2 _ rfl
  have x3 := hs.2 3 _ rfl
  have x4 := hs.2 4 _ rfl
  clear hb hs hbx
  go_wp2_with fail
  refine (right_any _ m A ca ins w1 (HV.out.keep (Keeps.of_below HS.out.1 (fun _ h => h))) (HI.out.keep (Keeps.of_below HS.out.1 (fun _ h => h)))).mono ?_
  rintro e w2 ⟨rfl, hb⟩
  have hs := HS.out.below hb
  have HBX := hid ((hb.block _ (lt_of_block HBX.out)).trans HBX.out)
  have HS := hid hs
  have x0 := hs.2 0 _ rfl
  have x1 := hs.2 1 _ rfl
  have x2 := hs.2 2 _ rfl
  have x3 := hs.2 3 _ rfl
  have x4 := hs.2 4 _ rfl
  clear hb hs
  cases hr : rightB m ins
  · clear hr
    go_wp2_with fail
    go_ret
    exact ⟨rfl, HS.out.1⟩
  have hq := hr
  unfold rightB at hq
  simp only [Bool.and_eq_true, decide_eq_true_eq] at hq
  have h24 : ins.length ≤ 24 := hq.1.2
  have hin : Hid (∀ j, j < ins.length → 0 ≤ ins.getD j 0 ∧ ins.getD j 0 < m.ins) := hid fun j hj => by
    have := allN_true.1 hq.2 j hj
    simpa only [Bool.and_eq_true, decide_eq_true_eq] using this
  have hSz := hid (sized_of hq.1.1.2)
  have hsm := few_small hq.1.1.1
  obtain ⟨e1, e2⟩ := compiled_ok hq.1.1.1 hq.1.1.2
  have hcz : compileZ m = compileC m := by unfold compileZ; rw [if_pos e1]
  have hnn := hSz.out.nn
  have hn1 := hSz.out.n1
  have hi1 := hSz.out.i1
  have hn12 : m.next.length ≤ 12 := hsm.2.1
  have hi20 : m.ins ≤ 20 := hsm.2.2
  have hp : 0 ≤ 2 * (m.next.length : Int) * m.ins := Int.mul_nonneg (by omega) (by omega)
  have hp2 : 2 * (m.next.length : Int) * m.ins ≤ 24 * 20 := Int.mul_le_mul (by omega) hi20 (by omega) (by omega)
  have htm : mealyB (twinM m) = true := twin_mealy hSz.out (by omega)
  have hte : compileE (twinM m) = 0 := by
    unfold compileE
    rw [if_pos htm, if_neg]
    rw [twin_len]
    show ¬ 512 < ((2 * m.next.length : Nat) : Int) * m.ins
    have : ((2 * m.next.length : Nat) : Int) * m.ins = 2 * (m.next.length : Int) * m.ins := by rw [Int.natCast_mul]; rfl
    omega
  have htz : compileZ (twinM m) = compileC (twinM m) := by unfold compileZ; rw [if_pos hte]
  obtain ⟨out, hout⟩ : ∃ o, mOuts m m.start ins ins.length = o := ⟨_, rfl⟩
  have hol : out.length = ins.length := by rw [← hout]; exact mOuts_len _ _ _ _
  have hrun : runZ (compileC m) ins = out := (comp_run hSz.out (comp_valid hSz.out (by omega) hi20).1 hin.out).trans hout
  have hrun2 : runZ (compileC (twinM m)) ins = out := (twin_run hSz.out (by omega) hi20 hin.out).trans hrun
  have HRUN := hid hrun
  have HRUN2 := hid hrun2
  have HOL := hid hol
  have HE := hid e1
  have HTE := hid hte
  have HCZ := hid hcz
  have HTZ := hid htz
  have H24 := hid h24
  have HNN := hid hnn
  have hs0 := hSz.out.s0
  have hs1 : m.start < 12 := by have := hSz.out.s1; omega
  have y1 : IntKind.i64.wrap (2 * (m.next.length : Int)) = 2 * (m.next.length : Int) := IntWalk.i64_in _ (by omega)
  have y2 : IntKind.i64.wrap (2 * (m.next.length : Int) * m.ins) = 2 * (m.next.length : Int) * m.ins := IntWalk.i64_in _ (by omega)
  have y3 : decide (512 < 2 * (m.next.length : Int) * m.ins) = false := decide_eq_false (by omega)
  clear hr hq hsm e1 e2 hcz hp hp2 htm hte htz hout hol hrun hrun2 h24 hnn
  go_upto_region 6 with (fail)
  refine wp_gen fun W6 hW6 => ?_
  have hb6 : Below w2.heap.size w2 W6 := by rw [hW6]; go_grown
  have hm6 : W6.heap[w2.heap.size]? = some (.cells #[.int .i64 m.ins, .int .i64 m.outs, .int .i64 (m.start + (m.next.length : Int)), .slice none 0 0, .slice none 0 0] 35 (0, 0)) := by rw [hW6]; exact heap_alloc_new w2 _
  obtain ⟨b, hbe⟩ : ∃ b, b = w2.heap.size := ⟨_, rfl⟩
  rw [← hbe] at hm6 ⊢
  have hT : Tw w W6 b #[.int .i64 m.ins, .int .i64 m.outs, .int .i64 m.start, .slice Ao m.out.length co, .slice An m.next.length cn] m.ins m.outs (m.start + (m.next.length : Int)) [] none 0 [] [] none 0 [] :=
    ⟨HS.out.1.trans (hb6.mono HS.out.1.size), by rw [hbe]; exact World.block_lt_of_cell? w2 _ x0, (hb6.block _ (lt_of_block HBX.out)).trans HBX.out, hm6, ⟨rfl, .inl ⟨rfl, rfl⟩⟩, ⟨rfl, .inl ⟨rfl, rfl⟩⟩, Rows.nil _ _ _, Rows.nil _ _ _, fun b h => by cases h⟩
  have HT := hid hT
  clear hW6 hb6 hm6 hbe hT x0 x1 x2 x3 x4 y2 y3
  go_wp2_with fail
  go_loopw [8, 9, 10] (fun t _ _ wr => ∃ (k : Nat) (orows nrows : List (List Int)) (Bo : Option Addr) (bo : Nat) (vo : List Value) (Bn : Option Addr) (bn : Nat) (vn : List Value), k ≤ 2 * m.next.length ∧ t = .int .i64 (k : Int) ∧ orows = twinOuts m k ∧ nrows = twinNexts m k ∧ orows.length = k ∧ nrows.length = k ∧
    Tw w wr b #[.int .i64 m.ins, .int .i64 m.outs, .int .i64 m.start, .slice Ao m.out.length co, .slice An m.next.length cn] m.ins m.outs (m.start + (m.next.length : Int)) orows Bo bo vo nrows Bn bn vn) (fun t _ _ _ => 2 * m.next.length - (intOf t).toNat)
  case atStart => exact ⟨0, [], [], none, 0, [], none, 0, [], Nat.zero_le _, rfl, rfl, rfl, rfl, rfl, HT.out⟩
  case round =>
    clear HT
    obtain ⟨k, orows, nrows, Bo, bo, vo, Bn, bn, vn, hk, rfl, hor, hnr, hol, hnl, hT⟩ := hrel
    have HT := hid hT
    have HOR := hid hor
    have HNR := hid hnr
    have HOL := hid hol
    have HNL := hid hnl
    have x0 := block_cell hT.box (i := 0) rfl
    have x3 := block_cell hT.box (i := 3) rfl
    have x4 := block_cell hT.box (i := 4) rfl
    have hwb : w.heap.size < wr.heap.size := lt_of_block hT.box
    have hol2 : orows.length ≤ 24 := by omega
    have hnl2 : nrows.length ≤ 24 := by omega
    clear hT hor hnr hol hnl
    by_cases hlt : k < 2 * m.next.length
    · --<<
      have hk1 : decide ((k : Int) < 2 * (m.next.length : Int)) = true := decide_eq_true (by omega)
      obtain ⟨q, hq⟩ : ∃ q, k % m.next.length = q := ⟨_, rfl⟩
      obtain ⟨d, hd⟩ : ∃ d, k / m.next.length = d := ⟨_, rfl⟩
      have hql : q < m.next.length := by rw [← hq]; exact Nat.mod_lt _ (by omega)
      have hd2 : d ≤ 1 := by rw [← hd]; exact Nat.le_of_lt_succ (Nat.div_lt_of_lt_mul (by omega))
      have HQ := hid hq
      have HD := hid hd
      clear hq hd
      obtain ⟨wz, rfl⟩ : ∃ wz : World, wz = wr := ⟨_, rfl⟩
      go_wp2_with fail
      refine wp_gen fun wo hwo => ?_
      have hbo : Below wz.heap.size wz wo := by rw [hwo]; go_grown
      have hown0 : wo.ownsRow wz.heap.size 3 1 (.slice (some ⟨wz.heap.size, 0, none⟩) 0 0) 0 [] := by rw [hwo]; exact World.ownsRow_lit wz #[] 0 (Nat.le_refl _) (Nat.zero_le _) (by simp)
      have HOWN0 := hid hown0
      have HBO := hid hbo
      clear hown0 hbo hwo x0 x3 x4
      go_loopw [9, 10] (fun s t wr => ∃ (x : Nat) (Br : Option Addr) (br : Nat), (x : Int) ≤ m.ins ∧ t = .int .i64 (x : Int) ∧ s = .slice Br x br ∧
        wr.ownsRow wz.heap.size 3 1 (.slice Br x br) x ((twinRow m k x).map (.int .i64)) ∧ Below wz.heap.size wz wr) (fun _ t _ => m.ins.toNat - (intOf t).toNat)
      case atStart => exact ⟨0, _, _, by omega, rfl, rfl, HOWN0.out, HBO.out⟩
      case round =>
        clear HOWN0 HBO
        obtain ⟨x, Br, br, hx, rfl, rfl, hown, hbz⟩ := hrel
        have hT := HT.out.after hbz
        have x0 := block_cell hT.box (i := 0) rfl
        have x3 := block_cell hT.box (i := 3) rfl
        have x4 := block_cell hT.box (i := 4) rfl
        have HT2 := hid hT
        have HOWN := hid hown
        have HBZ := hid hbz
        have hszz : wz.heap.size ≤ wr.heap.size := hbz.size
        clear hT hown hbz
        by_cases hxl : (x : Int) < m.ins
        · have hxx : decide ((x : Int) < m.ins) = true := decide_eq_true hxl
          obtain ⟨b2, o2, A2, c2, r, rfl, _, had2, HR, hr2, hc2⟩ := (HNX.out.keep (Keeps.of_below HT2.out.below fun _ h => h)).get hql
          have hqo : q < m.out.length := by have := HNN.out; omega
          have e2 := hSz.out.nextr q x hqo hxl
          rw [HR.out] at e2
          have hxr : x < r.length := by omega
          obtain ⟨b3, o3, y, rfl, _, had3, HY, hc3⟩ := hr2.get hxr
          rw [HY.out] at e2
          have hy0' : 0 ≤ y := e2.2.1
          have hy1' : y < 12 := by have := HNN.out; omega
          have hx20 : (x : Int) < 20 := by omega
          have hxri : (x : Int) < r.length := by omega
          have hqi : (q : Int) < m.next.length := by omega
          have hrl := hr2.len.1
          have hxi0 : (0 : Int) ≤ x := by omega
          have t1 : Int.tmod (k : Int) (m.next.length : Int) = (q : Int) := by rw [← HQ.out]; rfl
          have t2 : Int.tdiv (k : Int) (m.next.length : Int) = (d : Int) := by rw [← HD.out]; rfl
          clear hr2 e2
          go_wp2_with fail
          have s0 : ¬ m.next = [] := fun e => by rw [e] at hql; simp at hql
          have s6 : IntKind.i64.wrap (d : Int) = (d : Int) := IntWalk.i64_in _ (by omega)
          have s1 : IntKind.i64.wrap (1 + (d : Int)) = 1 + (d : Int) := IntWalk.i64_in _ (by omega)
          have s2 : IntKind.i64.wrap (1 + (d : Int) + (x : Int)) = 1 + (d : Int) + (x : Int) := IntWalk.i64_in _ (by omega)
          have p0 : 0 ≤ (m.next.length : Int) * (1 + (d : Int) + (x : Int)) := Int.mul_nonneg (by omega) (by omega)
          have p1 : (m.next.length : Int) * (1 + (d : Int) + (x : Int)) ≤ 12 * 30 := Int.mul_le_mul (by omega) (by omega) (by omega) (by omega)
          have s3 : IntKind.i64.wrap ((m.next.length : Int) * (1 + (d : Int) + (x : Int))) = (m.next.length : Int) * (1 + (d : Int) + (x : Int)) := IntWalk.i64_in _ (by omega)
          have s4 : IntKind.i64.wrap (y + (m.next.length : Int) * (1 + (d : Int) + (x : Int))) = y + (m.next.length : Int) * (1 + (d : Int) + (x : Int)) := IntWalk.i64_in _ (by omega)
          have s5 : ¬ (2 * (m.next.length : Int) = 0) := by omega
          obtain ⟨Z, hZ⟩ : ∃ Z, twinC m k x = Z := ⟨_, rfl⟩
          have hZr := twinC_range hSz.out k x
          rw [hZ] at hZr
          have t3 : Int.tmod (y + (m.next.length : Int) * (1 + (d : Int) + (x : Int))) (2 * (m.next.length : Int)) = Z := by
            rw [Int.tmod_eq_emod_of_nonneg (by omega), ← hZ]
            unfold twinC
            rw [HQ.out, HD.out, HR.out, HY.out]
          have HZ := hid hZ
          clear p0 p1 hZ
          have hZ0 := hZr.1
          have hZ1 : Z < 24 := by omega
          clear hZr
          go_region_law
            ((refine step_append_rd _ (by rfl) _ _ 23 (by rfl) wz.heap.size 3 i0 _ 1 8 Try.underlying23 hti hz0 hz1 hz2 rfl (by omega) (.slice Br x br) x _ (by rfl) (own_below HOWN.out (by go_grown)) _ (some ⟨wr.heap.size, 0, none⟩) 1 1 _ (by rfl) (Rd.cell1 (cell_new wr.drew _ _ _ _ _ rfl rfl)) (by simp [Value.oneCell']) (by omega) (maxLen_le (by omega)) (by simp; omega) ?_
              intro A6 c6 w6 hown6 hg6 hat6))
          all_goals
            have hbz6 := Below.grown (B := wz.heap.size) (HBZ.out.trans ((show Below wr.heap.size wr _ from by go_grown).mono HBZ.out.size)) hg6 (by simp; omega) (fun k hk => ((own_below HOWN.out (by go_grown)).lt k hk).1)
            have HO6 := hid hown6
            have HB6 := hid hbz6
            clear hown6 hg6 hat6 hbz6
            go_wp2_with fail
            go_roundw
            case rel => exact ⟨x + 1, A6, c6, by omega, by go_num, rfl, by rw [twinRow_succ, HZ.out, List.map_append]; exact HO6.out, HB6.out⟩
            case measure => simp [intOf]; omega
        · have hxe : x = m.ins.toNat := by omega
          have HXE := hid hxe
          have hxx : decide ((x : Int) < m.ins) = false := decide_eq_false hxl
          clear hxe
          obtain ⟨-, -, -, d3, d4, db, f3, f4⟩ := HT2.out.cells
          go_wp2_with (at_builtin; go_must (refine wpList_append_rd _ rfl (.tmp 82) (.tmp 84) 33 rfl w.heap.size 23 i1 _ 1 24 Try.underlying33 htr hy0 hy1 hy2 rfl (by omega) (.slice Bn nrows.length bn) nrows.length _ rfl (HT2.out.on.alloc _) _ (some ⟨wr.heap.size, 0, none⟩) 1 1 _ rfl (Rd.cell1 (cell_new wr _ _ _ _ _ rfl rfl)) (by simp [Value.oneCell']) (by omega) (maxLen_le (by omega)) (by simp; omega) ?_); intro A5 c5 w5 hown5 hg5 hat5; have e5c := ((HT2.out.after (by go_grown)).grow (base := 0) (HT2.out.after (by go_grown)).on hg5 0 undef).2.2.2.2; have e5d := block_cell e5c (i := 4) rfl; have e5f := block_free e5c (i := 4))
          refine wp_gen fun W7 hW7 => ?_
          obtain ⟨r7, hr7⟩ : ∃ r, r = twinRow m k x := ⟨_, rfl⟩
          have hr7l : r7.length = x := by rw [hr7]; exact twinRow_len _ _ _
          obtain ⟨n7, hn7⟩ : ∃ l, l = nrows ++ [r7] := ⟨_, rfl⟩
          have hn7l : n7.length = nrows.length + 1 := by rw [hn7]; simp
          have hT7 : Tw w W7 b #[.int .i64 m.ins, .int .i64 m.outs, .int .i64 m.start, .slice Ao m.out.length co, .slice An m.next.length cn] m.ins m.outs (m.start + (m.next.length : Int)) orows Bo bo vo n7 A5 c5 (vn ++ [.slice Br r7.length br]) := by
            rw [hW7, hn7]
            refine (HT2.out.after (by go_grown)).next (Tw.fresh (wo := wz) (Nat.le_of_lt hwb) (by rw [hr7]; exact HOWN.out.alloc _) hr7l.symm (by omega)) hg5 (by rw [hr7l]; exact hown5) hat5
          have HT7 := hid hT7
          have HR7 := hid hr7
          have HN7 := hid hn7
          have HN7L := hid hn7l
          have x0 := block_cell hT7.box (i := 0) rfl
          have x3 := block_cell hT7.box (i := 3) rfl
          have x4 := block_cell hT7.box (i := 4) rfl
          have hsz7 : wz.heap.size ≤ W7.heap.size := by rw [hW7]; have := hg5.size; simp at this ⊢; omega
          clear hW7 hr7l hr7 hn7 hn7l hT7 d3 d4 db f3 f4 hown5 hg5 hat5 e5c e5d e5f
          obtain ⟨-, -, -, d3, d4, db, f3, f4⟩ := HT7.out.cells
          have hqo : q < m.out.length := by have := HNN.out; omega
          obtain ⟨b2, o2, A2, c2, r, rfl, _, had2, HR, hr2, hc2⟩ := (HOX.out.keep (Keeps.of_below HT7.out.below fun _ h => h)).get hqo
          have HR2 := hid hr2
          have hqi : (q : Int) < m.out.length := by omega
          have t1 : Int.tmod (k : Int) (m.next.length : Int) = (q : Int) := by rw [← HQ.out]; rfl
          have s0 : ¬ m.next = [] := fun e => by rw [e] at hql; simp at hql
          have hrl := hr2.len.1
          clear hr2
          go_region_law
            ((refine step_append_rd _ (by rfl) _ _ 33 (by rfl) w.heap.size 23 i1 _ 1 24 Try.underlying33 htr hy0 hy1 hy2 rfl (by omega) (.slice Bo orows.length bo) orows.length _ (by rfl) (HT7.out.after (by go_grown)).oo _ (some ⟨W7.heap.size, 0, none⟩) 1 1 _ (by rfl) (Rd.cell1 (cell_new W7.drew _ _ _ _ _ rfl rfl)) (by simp [Value.oneCell']) (by omega) (maxLen_le (by omega)) (by simp; omega) ?_
              intro A6 c6 w6 hown6 hg6 hat6
              have e6c := ((HT7.out.after (by go_grown)).grow (base := 0) (HT7.out.after (by go_grown)).oo hg6 0 undef).2.2.2.2
              have e6d := block_cell e6c (i := 3) rfl
              have e6f := block_free e6c (i := 3)))
          all_goals
            have hfin := (HT7.out.after (by go_grown)).outr (HR2.out.keep (Keeps.of_below (by go_grown) (fun _ h => h)) |>.mono (fun _ h _ => .inl h)) hg6 hown6 hat6
            have HF := hid hfin
            clear hfin hown6 hg6 hat6 e6c e6d e6f
            go_wp2_with fail
            go_roundw
            case rel =>
              refine ⟨k + 1, orows ++ [r], n7, A6, c6, _, A5, c5, _, by omega, by go_num, ?_, ?_, ?_, ?_, HF.out⟩
              · rw [twinOuts_succ, ← HOR.out, HQ.out, HR.out]
              · rw [twinNexts_succ, ← HNR.out, HN7.out, HR7.out, HXE.out]
              · rw [List.length_append, HOL.out]; rfl
              · rw [HN7L.out, HNL.out]
            case measure => simp [intOf]; omega
      -->>
    · have hk2 : k = 2 * m.next.length := by omega
      have HK2 := hid hk2
      have hk1 : decide ((k : Int) < 2 * (m.next.length : Int)) = false := decide_eq_false (by omega)
      have htw : (⟨m.ins, m.outs, m.start + (m.next.length : Int), orows, nrows⟩ : Mly) = twinM m := by rw [HOR.out, HNR.out, hk2]; rfl
      have HTW := hid htw
      obtain ⟨c, hc⟩ : ∃ c, compileC m = c := ⟨_, rfl⟩
      obtain ⟨d, hd⟩ : ∃ c, compileC (twinM m) = c := ⟨_, rfl⟩
      have RC1 : Hid (runZ c ins = out) := hid (by rw [← hc]; exact HRUN.out)
      have RC2 : Hid (runZ d ins = out) := hid (by rw [← hd]; exact HRUN2.out)
      have HC := hid hc
      have HD := hid hd
      have HOO := hid hol2
      have COMP : Hid (∀ W, RdM W (· < w.heap.size) (.agg #[.int .i64 m.ins, .int .i64 m.outs, .int .i64 m.start, .slice Ao m.out.length co, .slice An m.next.length cn]) m → Calls Try.prog 19 #[.agg #[.int .i64 m.ins, .int .i64 m.outs, .int .i64 m.start, .slice Ao m.out.length co, .slice An m.next.length cn]] W fun e w' => ∃ u, e = .returned (.tuple #[u, .int .i64 0]) ∧ Below W.heap.size W w' ∧ RdC w' (fun b => W.heap.size ≤ b) u c) := hid fun W hW => by
        have := compile_any W _ m hW (by have := HNN.out; omega)
        rw [HE.out, HCZ.out, HC.out] at this
        exact this
      have COMP2 : Hid (∀ W, RdM W (fun _ => True) (.agg #[.int .i64 m.ins, .int .i64 m.outs, .int .i64 (m.start + (m.next.length : Int)), .slice Bo orows.length bo, .slice Bn nrows.length bn]) ⟨m.ins, m.outs, m.start + (m.next.length : Int), orows, nrows⟩ → Calls Try.prog 19 #[.agg #[.int .i64 m.ins, .int .i64 m.outs, .int .i64 (m.start + (m.next.length : Int)), .slice Bo orows.length bo, .slice Bn nrows.length bn]] W fun e w' => ∃ u, e = .returned (.tuple #[u, .int .i64 0]) ∧ Below W.heap.size W w' ∧ RdC w' (fun b => W.heap.size ≤ b) u d) := hid fun W hW => by
        have := compile_any W _ _ hW (by show orows.length ≤ _; have := HOO.out; omega)
        rw [HTW.out, HTE.out, HTZ.out, HD.out] at this
        exact this
      have x1 := block_cell HT.out.box (i := 1) rfl
      have x2 := block_cell HT.out.box (i := 2) rfl
      clear hk2 htw hc hd HRUN HRUN2 HE HTE HCZ HTZ y1
      go_wp2_with fail
      refine (COMP.out wr (HV.out.keep (Keeps.of_below HT.out.below (fun _ h => h)))).mono ?_
      rintro e w3 ⟨u, rfl, hb3, hr3⟩
      have HR3 := hid hr3.old
      obtain ⟨Bg, bg, Bl, bl', Bv, bv', rfl, hg3, hl3, ho3⟩ := hr3
      have HT3 := hid (HT.out.after hb3)
      clear x0 x1 x2 x3 x4 hb3 hg3 hl3 ho3
      go_upto_region 17 with (fail)
      refine wp_gen fun W4 hW4 => ?_
      have hb4 : Below w3.heap.size w3 W4 := by rw [hW4]; go_grown
      have hc4 : W4.heap[w3.heap.size]? = some (.cells #[.int .i64 c.ib, .slice Bg c.gates.length bg, .slice Bl c.lat.length bl', .slice Bv c.outs.length bv'] 25 (0, 0)) := by rw [hW4]; exact heap_alloc_new w3 _
      obtain ⟨p1, hp1⟩ : ∃ p, p = w3.heap.size := ⟨_, rfl⟩
      rw [← hp1] at hc4 ⊢
      have hT4 := HT3.out.after hb4
      have HT4 := hid hT4
      have HC4 := hid hc4
      have HR4 := hid (HR3.out.keep (Keeps.of_below hb4 (fun _ h => h))).old
      obtain ⟨d0, d1, d2, d3, d4, db, -, -⟩ := hT4.cells
      clear hW4 hb4 hc4 hp1 hT4
      go_wp2_with fail
      refine (COMP2.out W4 (HT4.out.reads (by have := HOO.out; omega) (by omega))).mono ?_
      rintro e w5 ⟨u, rfl, hb5, hr5⟩
      have HR5 := hid hr5.old
      obtain ⟨Cg, cg, Cl, cl', Cv, cv', rfl, hg5, hl5, ho5⟩ := hr5
      have HC5 := hid ((hb5.block _ (lt_of_block HC4.out)).trans HC4.out)
      have HR51 := hid (HR4.out.keep (Keeps.of_below hb5 (fun _ h => h))).old
      have HT5 := hid (HT4.out.after hb5)
      clear d0 d1 d2 d3 d4 db hb5 hg5 hl5 ho5
      go_upto_region 18 with (fail)
      refine wp_gen fun W6 hW6 => ?_
      have hb6 : Below w5.heap.size w5 W6 := by rw [hW6]; go_grown
      have hc6 : W6.heap[w5.heap.size]? = some (.cells #[.int .i64 d.ib, .slice Cg d.gates.length cg, .slice Cl d.lat.length cl', .slice Cv d.outs.length cv'] 25 (0, 0)) := by rw [hW6]; exact heap_alloc_new w5 _
      obtain ⟨p2, hp2⟩ : ∃ p, p = w5.heap.size := ⟨_, rfl⟩
      rw [← hp2] at hc6 ⊢
      have hc5 := (hb6.block _ (lt_of_block HC5.out)).trans HC5.out
      have HT6 := hid (HT5.out.after hb6)
      have H1D := hid ((HR51.out.keep (Keeps.of_below hb6 (fun _ h => h))).keep (Drawn.refl W6).drew.keeps).old
      have H2D := hid ((HR5.out.keep (Keeps.of_below hb6 (fun _ h => h))).keep (Drawn.refl W6).drew.keeps).old
      have HBD := hid (HT6.out.below.trans ((Drawn.refl W6).drew.below w.heap.size))
      have z0 := block_cell hc5 (i := 0) rfl
      have z1 := block_cell hc5 (i := 1) rfl
      have z2 := block_cell hc5 (i := 2) rfl
      have z3 := block_cell hc5 (i := 3) rfl
      have g0 := block_cell hc6 (i := 0) rfl
      have g1 := block_cell hc6 (i := 1) rfl
      have g2 := block_cell hc6 (i := 2) rfl
      have g3 := block_cell hc6 (i := 3) rfl
      clear hW6 hb6 hc6 hp2 hc5
      go_wp2_with fail
      go_region_held3 (fun w' => w'.cell? ⟨p1, 0, none⟩ = some (.int .i64 c.ib) ∧ w'.cell? ⟨p1, 1, none⟩ = some (.slice Bg c.gates.length bg) ∧ w'.cell? ⟨p1, 2, none⟩ = some (.slice Bl c.lat.length bl') ∧ w'.cell? ⟨p1, 3, none⟩ = some (.slice Bv c.outs.length bv') ∧ w'.cell? ⟨p2, 0, none⟩ = some (.int .i64 d.ib) ∧ w'.cell? ⟨p2, 1, none⟩ = some (.slice Cg d.gates.length cg) ∧ w'.cell? ⟨p2, 2, none⟩ = some (.slice Cl d.lat.length cl') ∧ w'.cell? ⟨p2, 3, none⟩ = some (.slice Cv d.outs.length cv'))
        (first
          | go_keep
          | exact cells8_below (by assumption) (by assumption))
        (first
          | (go_at_call 16
             (with_reducible refine (run_at _ _ c ins out A ca H1D.out (HI.out.keep (Keeps.of_below HBD.out (fun _ h => h))) (by have := H24.out; omega) RC1.out).mono ?_)
             rintro e w7 ⟨B7, c7, rfl, hb7, hr7⟩)
          | (go_at_call 16
             (with_reducible refine (run_at _ _ d ins out A ca (H2D.out.keep (Keeps.of_below hb7 (fun _ h => h))) (HI.out.keep (Keeps.of_below (HBD.out.trans (hb7.mono HBD.out.size)) (fun _ h => h))) (by have := H24.out; omega) RC2.out).mono ?_)
             rintro e w8 ⟨B8, c8, rfl, hb8, hr8⟩)
          | (go_at_call 15
             refine (ints_same _ out B7 B8 c7 c8 (hr7.old.keep (Keeps.of_below hb8 (fun _ h => h))) hr8.old).mono ?_
             rintro e w9 ⟨rfl, hd9⟩
             have hb9 := hd9.below w8.heap.size))
      all_goals
        have HFIN := hid (HBD.out.trans ((hb7.trans ((hb8.trans (hb9.mono hb8.size)).mono hb7.size)).mono HBD.out.size))
        clear hb7 hb8 hb9 hd9 hr7 hr8
        go_wp2_with fail
        go_ret
        exact ⟨rfl, HFIN.out⟩
end Go.Proofs.Ytfabdpnjjondaaa
