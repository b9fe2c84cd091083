/-
  Walk of TypingSignals.
-/
import Derived.Test.YtdakdpfofgkjoaaDoorZ39
set_option linter.unusedVariables false
set_option linter.unusedSimpArgs false
namespace Go.Proofs.YtdakdpfofgkjoaaDoor
open Go.RowKit Go.Shelf
attribute [local go_sem] cell_alloc_old build_sp

theorem sig_info : (Tryd.prog.info? 27).map (fun i => (i.zero, i.size, i.bytes)) = some (some (.agg #[.string ⟨#[]⟩, .bool false, .int .i64 0]), 3, 32) := by kernel_rfl
theorem slice_to (A : Option Addr) {n c k : Nat} (h : k ≤ c) (w : World) : (Instr.slice 22 (.slice A n c) none (some (.int .i64 (k : Int))) none).run Tryd.prog w = .ok (.slice A k c) w := by
  obtain ⟨i0, hti, hz0, hz1, hz2⟩ := info_parts sig_info
  have ht : Tryd.prog.underlying 22 = some (.slice 27) := Tryd.underlying22
  have ht' : Tryd.prog.underlying 22 = some (.slice (Tryd.prog.elem 22)) := by simp [Program.elem, ht]
  have he : Tryd.prog.elem 22 = 27 := by simp [Program.elem, ht]
  have hsz : ∀ w, (Go.sizeOf 27).run Tryd.prog w = .ok 3 w := fun w => by simp [sizeOf, typeInfo, hti, hz1]
  rw [run_slice_h w 22 _ _ _ ht' .i64 _ (by omega) (by omega), he, hsz]
  cases A <;> simp [Result.andThen, sliced, Addr.add]
theorem slice_from (A : Option Addr) {n c k : Nat} (h : k ≤ n) (w : World) : (Instr.slice 22 (.slice A n c) (some (.int .i64 (k : Int))) none none).run Tryd.prog w = .ok (.slice (if c = k then A else A.map (·.add (k * 3))) (n - k) (c - k)) w := by
  obtain ⟨i0, hti, hz0, hz1, hz2⟩ := info_parts sig_info
  have ht : Tryd.prog.underlying 22 = some (.slice 27) := Tryd.underlying22
  have ht' : Tryd.prog.underlying 22 = some (.slice (Tryd.prog.elem 22)) := by simp [Program.elem, ht]
  have he : Tryd.prog.elem 22 = 27 := by simp [Program.elem, ht]
  have hsz : ∀ w, (Go.sizeOf 27).run Tryd.prog w = .ok 3 w := fun w => by simp [sizeOf, typeInfo, hti, hz1]
  rw [run_slice_l w 22 _ _ _ ht' .i64 _ (by omega) (by omega), he, hsz]
  simp [Result.andThen, sliced]
theorem flatF_take {α : Type} (f : α → List Value) (s : Nat) (hf : ∀ x, (f x).length = s) : ∀ (l : List α) (k : Nat), (l.flatMap f).take (k * s) = (l.take k).flatMap f
  | [], k => by simp
  | x :: l, 0 => by simp
  | x :: l, k + 1 => by
    rw [List.flatMap_cons, List.take_succ_cons, List.flatMap_cons, List.take_append, hf, ← flatF_take f s hf l k, List.take_of_length_le (by rw [hf, Nat.succ_mul]; omega)]
    congr 2
    rw [Nat.succ_mul]; omega
theorem flatF_drop {α : Type} (f : α → List Value) (s : Nat) (hf : ∀ x, (f x).length = s) : ∀ (l : List α) (k : Nat), (l.flatMap f).drop (k * s) = (l.drop k).flatMap f
  | [], k => by simp
  | x :: l, 0 => by simp
  | x :: l, k + 1 => by
    rw [List.flatMap_cons, List.drop_succ_cons, List.drop_append, hf, ← flatF_drop f s hf l k, List.drop_of_length_le (by rw [hf, Nat.succ_mul]; omega), List.nil_append]
    congr 1
    rw [Nat.succ_mul]; omega
/-- Appending to an empty row of the call's own. -/
theorem step_append_rd0 {P : Program} {w : World} {ops : Array Oper} {o : Oper} {a : Act} {K : Act → World → Prop} {Q : Exit → Act → World → Prop} {E : Prop} (hgd : o.guard = none) (s x : Operand) (t : TypeId)
    (ho : o.op = .call { callee := .builtin .append, args := #[s, x], argTypes := #[t, t] })
    (base : Nat) (e : TypeId) (i : TypeInfo) (z : Value) (size bytes : Nat) (ht : P.underlying t = some (.slice e)) (hi : P.info? e = some i) (hz : i.zero = some z)
    (hsize : i.size = size) (hby : i.bytes = bytes) (hzs : z.cells.size = size) (hsz : 0 < size)
    (v : Value) (hs : a.eval s = v) (hown : w.ownsRow base e size v 0 [])
    (D : Dom) (A : Option Addr) (m c : Nat) (news : List Value) (hx : a.eval x = .slice A m c) (hr : Rd w D size A m c news) (h1 : ∀ u ∈ news, u.oneCell' = true)
    (hbytes : m * bytes ≤ 140737488355328) (h63 : m ≤ maxLen) (hbase : base ≤ w.heap.size)
    (h : ∀ A' c' w', w'.ownsRow base e size (.slice A' m c') m news → w.grownBy w' v.ownBlock → K (a.put o.dst (.slice A' m c')) w') :
    if Region.wanted o (yielded ops a.tmps) = true then Oper.wp P o a w K Q else E := by
  refine step_append_rd w hgd s x t ho base e i z size bytes ht hi hz hsize hby hzs hsz v 0 [] hs hown D A m c news hx hr h1 (by rw [Nat.zero_add]; exact hbytes) (by rw [Nat.zero_add]; exact h63) hbase fun A' c' w' h2 h3 _ => ?_
  rw [Nat.zero_add, List.nil_append] at h2
  rw [Nat.zero_add]
  exact h A' c' w' h2 h3
theorem rsmall_120 {D : Dom} {w : World} {v : Value} {f : Fm} (r : Bool) (hr : decide (f.size ≤ 120) = r) (h : RdF3 w D v f) : Calls Tryd.prog 8 #[v, .int .i64 120] w fun e w' => e = .returned (.bool r) ∧ Below w.heap.size w w' := by
  subst hr
  exact rsmall_any f v 120 w h (by decide)
set_option maxRecDepth 100000 in
set_option maxHeartbeats 8000000 in
theorem signals_any {D E : Dom} (l : List Sg) (f : Fm) (s : Sg) (x : Int) (AS : Option Addr) (n cS : Nat) (v : Value) (w : World) (hn : n = l.length) (hl : RdG w D AS cS l) (hf : RdF3 w E v f) (hx0 : 0 ≤ x) (hx1 : x ≤ 255) (hg : GF w) (hk : GK w) :
    Calls Tryd.prog 3 #[.slice AS n cS, v, .agg #[.string s.name, .bool s.inp, .int .i64 s.size], .int .u8 x] w fun e w' => e = .returned (.bool true) ∧ Below w.heap.size w w' := by
  subst hn
  have hlen := hl.len.1
  obtain ⟨AF, cF, rfl, hfa⟩ := hf
  have HL := hid hl.old
  have HF := hid hfa.old
  have HG := hid hg
  have HK := hid hk
  clear hl hfa hg hk
  obtain ⟨i0, hti, hz0, hz1, hz2⟩ := info_parts sig_info
  have HTI := hid hti
  have HZ0 := hid hz0
  have HZ1 := hid hz1
  have HZ2 := hid hz2
  clear hti hz0 hz1 hz2
  go_enter Tryd.func3, Tryd.ntmps3
  go_upto_region 1 with (fail)
  refine wp_gen fun W hW => ?_
  have HB := hid (show Below w.heap.size w W by rw [hW]; go_grown)
  have HO := hid (show OB W w.heap.size f.op f.name f.val f.bound AF f.args.length cF by rw [hW]; exact (at_old _ _ _ (by simp)).trans (at_new _ _ _ rfl))
  have HM := hid (show W.heap[w.heap.size + 1]? = some (.cells #[.string s.name, .bool s.inp, .int .i64 s.size] 27 (0, 0)) by rw [hW]; exact at_new _ _ _ (by simp))
  have HWS := hid (show W.heap.size = w.heap.size + 2 by rw [hW]; simp)
  clear hW
  have HHD := hid (head7_any W (HG.out.below HB.out HG.out.pos) (HK.out.below HB.out HK.out.pos))
  go_upto_region 2 with (go_at_call 6; (with_reducible refine HHD.out.mono ?_); rintro e V ⟨rfl, hbV⟩; have HBV := hid hbV; clear hbV)
  have HBW := hid (HB.out.trans (HBV.out.mono HB.out.size))
  have HOV := hid (HO.out.below HBV.out)
  have HMV := hid ((HBV.out.block _ (lt_of_block HM.out)).trans HM.out)
  have HLV := hid (HL.out.any HBW.out)
  have HFV := hid (HF.out.any HBW.out)
  have HGV := hid (HG.out.below HBW.out HG.out.pos)
  have HKV := hid (HK.out.below HBW.out HK.out.pos)
  have HVS := hid (show w.heap.size + 2 ≤ V.heap.size by have := HBV.out.size; have := HWS.out; omega)
  clear HO HM HHD HBV HB HL HF HG HK
  have HSM := hid (ssmall_any l AS cS l.length V rfl HLV.out)
  have HFSM := hid (fun (V2 : World) (hb : Below V.heap.size V V2) => rsmall_120 (D := AnyD) (f := f) (w := V2) _ rfl ⟨AF, cF, rfl, HFV.out.any hb⟩)
  cases hsm : smallSB l
  · rw [hsm] at HSM
    clear hsm
    go_wp2_with (go_at_call 7; (with_reducible refine HSM.out.mono ?_); rintro e V2 ⟨rfl, hb2⟩; have HB2 := hid (HBW.out.trans (hb2.mono HBW.out.size)); clear hb2)
    go_ret
    exact ⟨rfl, HB2.out⟩
  have hl10 := small_len hsm
  rw [hsm] at HSM
  clear hsm
  by_cases hfs : f.size ≤ 120
  case neg =>
    have hdf : decide (f.size ≤ 120) = false := by simpa using hfs
    rw [hdf] at HFSM
    clear hfs hdf
    go_wp2_with (first | (go_at_call 7; (with_reducible refine HSM.out.mono ?_); rintro e V2 ⟨rfl, hb2⟩; have HB2 := hid hb2; obtain ⟨t0, t1, t2, t3, t4, t5⟩ := (HOV.out.below hb2).cells; clear hb2) | (go_at_call 8; (with_reducible refine (HFSM.out _ HB2.out).mono ?_); rintro e V3 ⟨rfl, hb3⟩; have HB3 := hid (HB2.out.trans (hb3.mono HB2.out.size)); clear hb3))
    go_ret
    exact ⟨rfl, HBW.out.trans (HB3.out.mono HBW.out.size)⟩
  have hdf : decide (f.size ≤ 120) = true := by simpa using hfs
  rw [hdf] at HFSM
  clear hfs hdf
  have HMC := hid (fun (V2 : World) (hb : Below V.heap.size V V2) => (hb.block _ (lt_of_block HMV.out)).trans HMV.out)
  by_cases hn40 : 40 < s.name.size
  · have hi40 : 40 < (s.name.size : Int) := by omega
    clear hn40
    go_wp2_with (first | (go_at_call 7; (with_reducible refine HSM.out.mono ?_); rintro e V2 ⟨rfl, hb2⟩; have HB2 := hid hb2; obtain ⟨t0, t1, t2, t3, t4, t5⟩ := (HOV.out.below hb2).cells; clear hb2) | (go_at_call 8; (with_reducible refine (HFSM.out _ HB2.out).mono ?_); rintro e V3 ⟨rfl, hb3⟩; have HB3 := hid (HB2.out.trans (hb3.mono HB2.out.size)); have u0 := block_cell (HMC.out _ HB3.out) (i := 0) rfl; clear hb3))
    go_ret
    exact ⟨rfl, HBW.out.trans (HB3.out.mono HBW.out.size)⟩
  have hi40 : ¬ 40 < (s.name.size : Int) := by omega
  clear hn40
  go_upto_region 5 with (first | (go_at_call 7; (with_reducible refine HSM.out.mono ?_); rintro e V2 ⟨rfl, hb2⟩; have HB2 := hid hb2; obtain ⟨t0, t1, t2, t3, t4, t5⟩ := (HOV.out.below hb2).cells; clear hb2) | (go_at_call 8; (with_reducible refine (HFSM.out _ HB2.out).mono ?_); rintro e V3 ⟨rfl, hb3⟩; have HB3 := hid (HB2.out.trans (hb3.mono HB2.out.size)); have u0 := block_cell (HMC.out _ HB3.out) (i := 0) rfl; clear hb3))
  have HB3W := hid (HBW.out.trans (HB3.out.mono HBW.out.size))
  obtain ⟨k, hk, hkl⟩ : ∃ k : Nat, x % ((l.length : Int) + 1) = (k : Int) ∧ k ≤ l.length :=
    ⟨(x % ((l.length : Int) + 1)).toNat, by have := Int.emod_nonneg x (b := (l.length : Int) + 1) (by omega); omega, by have := Int.emod_nonneg x (b := (l.length : Int) + 1) (by omega); have := Int.emod_lt_of_pos x (b := (l.length : Int) + 1) (by omega); omega⟩
  rw [hk]
  clear hk hx0 hx1
  have HL3 := hid (HLV.out.any HB3.out)
  have hlc := HL3.out.len.2.1
  have hsl1 := fun W => slice_to AS (n := l.length) (c := cS) (k := k) (by omega) W
  have hsl2 := fun W => slice_from AS (n := l.length) (c := cS) (k := k) hkl W
  have HT1 := hid (fun (W : World) (hb : Below V3.heap.size V3 W) => (show Rd W AnyD 3 AS k cS ((l.take k).flatMap gcells) by rw [← flatF_take gcells 3 (fun _ => rfl)]; exact Rd.take (HL3.out.any hb) hkl))
  have HT2 := hid (fun (W : World) (hb : Below V3.heap.size V3 W) => (show Rd W AnyD 3 (if cS = k then AS else AS.map (·.add (k * 3))) (l.length - k) (cS - k) ((l.drop k).flatMap gcells) by rw [← flatF_drop gcells 3 (fun _ => rfl)]; exact Rd.cut (HL3.out.any hb) hkl))
  obtain ⟨A5, hA5⟩ : ∃ A5, (if cS = k then AS else AS.map (·.add (k * 3))) = A5 := ⟨_, rfl⟩
  obtain ⟨m, hm⟩ : ∃ m, l.length - k = m := ⟨_, rfl⟩
  obtain ⟨c5, hc5⟩ : ∃ c5, cS - k = c5 := ⟨_, rfl⟩
  rw [hA5, hm, hc5] at HT2
  simp only [hA5, hm, hc5] at hsl2
  have hkm : k + m = l.length := by omega
  have HKM := hid hkm
  have h10 : k + 1 + m ≤ 11 := by omega
  clear hA5 hm hc5 hkl hkm
  have ho1 := gcells_one (l.take k)
  have ho2 : ∀ u ∈ gcells s, u.oneCell' = true := by simpa using gcells_one [s]
  have ho3 := gcells_one (l.drop k)
  have HMW := hid (HMC.out _ HB3.out)
  have HMC5 := hid (fun (W : World) (hb : Below V3.heap.size V3 W) => (hb.block _ (lt_of_block HMW.out)).trans HMW.out)
  have HV3 := hid (show w.heap.size + 2 ≤ V3.heap.size by have := HB3.out.size; have := HVS.out; omega)
  clear HMC u0 t0 t1 t2 t3 t4 t5
  have HCELL : Hid (∀ W' : World, Below V3.heap.size V3 W' → W'.cell? ⟨w.heap.size + 1, 0, none⟩ = some (.string s.name) ∧ W'.cell? ⟨w.heap.size + 1, 1, none⟩ = some (.bool s.inp) ∧ W'.cell? ⟨w.heap.size + 1, 2, none⟩ = some (.int .i64 s.size)) := hid fun W' hb => ⟨block_cell (HMC5.out _ hb) (i := 0) rfl, block_cell (HMC5.out _ hb) (i := 1) rfl, block_cell (HMC5.out _ hb) (i := 2) rfl⟩
  obtain ⟨m0, m1, m2⟩ := HCELL.out _ (Below.refl _ _)
  have hlw : w.heap.size + 1 < V3.heap.size := by have := HV3.out; omega
  go_upto_region 5 with (fail)
  go_region_held3 (fun W' : World => W'.cell? ⟨w.heap.size + 1, 0, none⟩ = some (.string s.name) ∧ W'.cell? ⟨w.heap.size + 1, 1, none⟩ = some (.bool s.inp) ∧ W'.cell? ⟨w.heap.size + 1, 2, none⟩ = some (.int .i64 s.size))
    (first | (go_keep; done) | (with_reducible exact HCELL.out _ HB8.out) | (with_reducible exact HCELL.out _ HB7.out) | (with_reducible exact HCELL.out _ HB6.out))
    (first
      | (refine step_append_rd0 (by rfl) _ _ 22 (by rfl) V3.heap.size 27 i0 _ 3 32 Tryd.underlying22 HTI.out HZ0.out HZ1.out HZ2.out rfl (by omega) (.slice (some ⟨V3.heap.size, 0, none⟩) 0 0) (by rfl) (by first | exact World.ownsRow_lit V3 #[] 0 (Nat.le_refl _) (Nat.zero_le _) rfl | exact own_below (World.ownsRow_lit V3 #[] 0 (Nat.le_refl _) (Nat.zero_le _) rfl) (by go_grown)) AnyD AS k cS ((l.take k).flatMap gcells) (by rfl) (HT1.out _ (by go_grown)) ho1 (by omega) (maxLen_le (by omega)) (by first | (simp; done) | (simp; omega)) ?_; intro A6 c6 w6 hown6 hg6; have HB6 := hid (Below.grown (show Below V3.heap.size V3 _ by go_grown) hg6 (by first | (simp; done) | (simp; omega)) (fun j hj => by simp [Value.ownBlock] at hj; omega)); have HO6 := hid hown6; clear hown6)
      | (refine step_append_rd0 (by rfl) _ _ 22 (by rfl) V3.heap.size 27 i0 _ 3 32 Tryd.underlying22 HTI.out HZ0.out HZ1.out HZ2.out rfl (by omega) (.slice (some ⟨V3.heap.size + 1, 0, none⟩) 0 0) (by rfl) (by have h := World.ownsRow_lit (base := V3.heap.size) (e := 27) (size := 3) (V3.alloc (.cells #[.string s.name, .bool s.inp, .int .i64 s.size] 27)) #[] 0 (by simp) (Nat.zero_le _) rfl; rw [World.size_alloc] at h; first | exact h | exact own_below h (by go_grown)) AnyD AS k cS ((l.take k).flatMap gcells) (by rfl) (HT1.out _ (by go_grown)) ho1 (by omega) (maxLen_le (by omega)) (by first | (simp; done) | (simp; omega)) ?_; intro A6 c6 w6 hown6 hg6; have HB6 := hid (Below.grown (show Below V3.heap.size V3 _ by go_grown) hg6 (by first | (simp; done) | (simp; omega)) (fun j hj => by simp [Value.ownBlock] at hj; omega)); have HO6 := hid hown6; clear hown6)
      | (refine step_append_rd _ (by rfl) _ _ 22 (by rfl) V3.heap.size 27 i0 _ 3 32 Tryd.underlying22 HTI.out HZ0.out HZ1.out HZ2.out rfl (by omega) (.slice A6 k c6) k ((l.take k).flatMap gcells) (by rfl) (by first | exact HO6.out | exact own_below HO6.out (by go_grown)) AnyD (some ⟨w6.heap.size, 0, none⟩) 1 1 (gcells s) (by rfl) (by first | exact Rd.fresh (D := AnyD) (n := 1) rfl trivial rfl (by omega) | exact Rd.freshD (D := AnyD) (n := 1) rfl trivial rfl (by omega)) ho2 (by omega) (maxLen_le (by omega)) (by have := HB6.out.size; simp; omega) ?_; intro A7 c7 w7 hown7 hg7 hat7; have HB7 := hid (Below.grown (show Below V3.heap.size V3 _ by first | exact HB6.out.alloc HB6.out.size _ | exact (HB6.out.alloc HB6.out.size _).drew) hg7 (by have := HB6.out.size; simp; omega) (fun j hj => (own_ge HO6.out hj).1)); have HO7 := hid hown7; clear hown7 hat7)
      | (refine step_append_rd _ (by rfl) _ _ 22 (by rfl) V3.heap.size 27 i0 _ 3 32 Tryd.underlying22 HTI.out HZ0.out HZ1.out HZ2.out rfl (by omega) (.slice A6 k c6) k ((l.take k).flatMap gcells) (by rfl) (by first | exact HO6.out | exact own_below HO6.out (by go_grown)) AnyD (some ⟨V3.heap.size, 0, none⟩) 1 1 (gcells s) (by rfl) (by refine Rd.mono (D := fun j => j = V3.heap.size) (Rd.keep ?_ (Keeps.grown ((Keeps.refl _ (V3.alloc (.cells #[.string s.name, .bool s.inp, .int .i64 s.size] 27))).alloc _).drew hg6 (by intro j hj e; simp [Value.ownBlock] at hj; omega))) fun _ _ _ => trivial; first | exact Rd.fresh (n := 1) (by simp) rfl rfl (by omega) | exact Rd.freshD (n := 1) (by simp) rfl rfl (by omega)) ho2 (by omega) (maxLen_le (by omega)) (by have := HB6.out.size; simp; omega) ?_; intro A7 c7 w7 hown7 hg7 hat7; have HB7 := hid (Below.grown (show Below V3.heap.size V3 _ by first | exact HB6.out | exact HB6.out.drew) hg7 (by have := HB6.out.size; simp; omega) (fun j hj => (own_ge HO6.out hj).1)); have HO7 := hid hown7; clear hown7 hat7)
      | (refine step_append_rd _ (by rfl) _ _ 22 (by rfl) V3.heap.size 27 i0 _ 3 32 Tryd.underlying22 HTI.out HZ0.out HZ1.out HZ2.out rfl (by omega) (.slice A6 k c6) k ((l.take k).flatMap gcells) (by rfl) (by first | exact HO6.out | exact own_below HO6.out (by go_grown)) AnyD (some ⟨V3.heap.size + 1, 0, none⟩) 1 1 (gcells s) (by rfl) (by refine Rd.mono (D := fun j => j = V3.heap.size + 1) (Rd.keep ?_ (Keeps.grown (Keeps.refl _ _) hg6 (by intro j hj e; simp [Value.ownBlock] at hj; omega))) fun _ _ _ => trivial; first | exact Rd.fresh (n := 1) (by simp) rfl rfl (by omega) | exact Rd.freshD (n := 1) (by simp) rfl rfl (by omega)) ho2 (by omega) (maxLen_le (by omega)) (by have := HB6.out.size; simp; omega) ?_; intro A7 c7 w7 hown7 hg7 hat7; have HB7 := hid (Below.grown (show Below V3.heap.size V3 _ by first | exact HB6.out | exact HB6.out.drew) hg7 (by have := HB6.out.size; simp; omega) (fun j hj => (own_ge HO6.out hj).1)); have HO7 := hid hown7; clear hown7 hat7)
      | (refine step_append_rd _ (by rfl) _ _ 22 (by rfl) V3.heap.size 27 i0 _ 3 32 Tryd.underlying22 HTI.out HZ0.out HZ1.out HZ2.out rfl (by omega) (.slice A7 (k + 1) c7) (k + 1) ((l.take k).flatMap gcells ++ gcells s) (by rfl) (by first | exact HO7.out | exact own_below HO7.out (by go_grown)) AnyD A5 m c5 ((l.drop k).flatMap gcells) (by rfl) (HT2.out _ (by first | exact HB7.out | exact HB7.out.drew)) ho3 (by omega) (maxLen_le (by omega)) (by have := HB7.out.size; simp; omega) ?_; intro A8 c8 w8 hown8 hg8 hat8; have HB8 := hid (Below.grown (show Below V3.heap.size V3 _ by first | exact HB7.out | exact HB7.out.drew) hg8 (by have := HB7.out.size; simp; omega) (fun j hj => (own_ge HO7.out hj).1)); have HO8 := hid hown8; clear hown8 hat8))
  all_goals
    have HB8V := hid (HB3.out.trans (HB8.out.mono HB3.out.size))
    have HBW8 := hid (HBW.out.trans (HB8V.out.mono HBW.out.size))
    obtain ⟨wd, hwd⟩ : ∃ wd : List Sg, l.take k ++ s :: l.drop k = wd := ⟨_, rfl⟩
    have hwl : k + 1 + m = wd.length := by rw [← hwd]; simp only [List.length_append, List.length_cons, List.length_take, List.length_drop]; have := HKM.out; omega
    have HR8 := hid (show RdG w8 AnyD A8 c8 wd by
      unfold RdG
      rw [← hwl, ← hwd, List.flatMap_append, List.flatMap_cons, ← List.append_assoc]
      exact Rd.own HO8.out (by omega) (fun _ _ => trivial))
    have HMEM := hid (show ∀ y, y ∈ l → y ∈ wd from fun y hy => by
      rw [← hwd]
      rw [← List.take_append_drop k l, List.mem_append] at hy
      rw [List.mem_append, List.mem_cons]
      rcases hy with h | h
      · exact .inl h
      · exact .inr (.inr h))
    rw [hwl]
    clear hwl hwd hsl1 hsl2 m0 m1 m2 ho1 ho2 ho3 h10 HO8 hg8 HB7 HO7 hg7 HB6 HO6 hg6 HT1 HT2 HCELL HMC5
    obtain ⟨t0, t1, t2, t3, t4, t5⟩ := (HOV.out.below HB8V.out).cells
    have HTF := hid (fun (W : World) (hb : Below w8.heap.size w8 W) => typform_any (D := AnyD) (E := AnyD) l AS cS l.length f _ W rfl (HLV.out.any (HB8V.out.trans (hb.mono HB8V.out.size))) ⟨AF, cF, rfl, HFV.out.any (HB8V.out.trans (hb.mono HB8V.out.size))⟩ (HGV.out.below (HB8V.out.trans (hb.mono HB8V.out.size)) HGV.out.pos) (HKV.out.below (HB8V.out.trans (hb.mono HB8V.out.size)) HKV.out.pos))
    have HTW := hid (fun (W : World) (hb : Below w8.heap.size w8 W) => typform_any (D := AnyD) (E := AnyD) wd A8 c8 wd.length f _ W rfl (HR8.out.any hb) ⟨AF, cF, rfl, HFV.out.any (HB8V.out.trans (hb.mono HB8V.out.size))⟩ (HGV.out.below (HB8V.out.trans (hb.mono HB8V.out.size)) HGV.out.pos) (HKV.out.below (HB8V.out.trans (hb.mono HB8V.out.size)) HKV.out.pos))
    have HVW := hid (fun (W : World) (hb : Below w8.heap.size w8 W) => svalid_any wd A8 c8 wd.length W rfl (HR8.out.any hb) (HKV.out.below (HB8V.out.trans (hb.mono HB8V.out.size)) HKV.out.pos))
    obtain ⟨e0, he0⟩ : ∃ e0, formErr l f = e0 := ⟨_, rfl⟩
    rw [he0] at HTF
    have HE0 := hid he0
    clear he0
    by_cases hz : e0 = 0
    · subst hz
      cases hv : validS wd
      · rw [hv] at HVW
        clear hv
        go_wp2_with (first | (go_at_call 9; (with_reducible refine (HTF.out _ (by first | exact Below.refl _ _ | go_grown)).mono ?_); rintro e W9 ⟨rfl, hb9⟩; have HB9 := hid hb9; clear hb9) | (go_at_call 10; (with_reducible refine (HVW.out _ HB9.out).mono ?_); rintro e WA ⟨rfl, hba⟩; have HBA := hid (HB9.out.trans (hba.mono HB9.out.size)); clear hba))
        go_ret
        exact ⟨rfl, HBW8.out.trans (HBA.out.mono HBW8.out.size)⟩
      · rw [hv] at HVW
        have hew : formErr wd f = 0 := formErr_wide hv HMEM.out HE0.out
        rw [hew] at HTW
        clear hv hew
        go_wp2_with (first | (go_at_call 9; (with_reducible refine (HTF.out _ (by first | exact Below.refl _ _ | go_grown)).mono ?_); rintro e W9 ⟨rfl, hb9⟩; have HB9 := hid hb9; clear hb9) | (go_at_call 10; (with_reducible refine (HVW.out _ HB9.out).mono ?_); rintro e WA ⟨rfl, hba⟩; have HBA := hid (HB9.out.trans (hba.mono HB9.out.size)); obtain ⟨u0, u1, u2, u3, u4, u5⟩ := (HOV.out.below (HB8V.out.trans (HBA.out.mono HB8V.out.size))).cells; clear hba t0 t1 t2 t3 t4 t5) | (go_at_call 9; (with_reducible refine (HTW.out _ HBA.out).mono ?_); rintro e WB ⟨rfl, hbb⟩; have HBB := hid (HBA.out.trans (hbb.mono HBA.out.size)); clear hbb))
        go_ret
        exact ⟨rfl, HBW8.out.trans (HBB.out.mono HBW8.out.size)⟩
    · have hen : (e0 != 0) = true := bneI_t hz
      clear hz
      go_wp2_with (go_at_call 9; (with_reducible refine (HTF.out _ (by first | exact Below.refl _ _ | go_grown)).mono ?_); rintro e W9 ⟨rfl, hb9⟩; have HB9 := hid hb9; clear hb9)
      go_ret
      exact ⟨rfl, HBW8.out.trans (HB9.out.mono HBW8.out.size)⟩
end Go.Proofs.YtdakdpfofgkjoaaDoor
