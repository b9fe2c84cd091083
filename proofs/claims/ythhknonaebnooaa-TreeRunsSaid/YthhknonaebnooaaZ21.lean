/-
  Walk of the law TreeRuns.
-/
import Derived.Test.YthhknonaebnooaaZ20
set_option linter.unusedVariables false
set_option linter.unusedSimpArgs false
namespace Go.Proofs.Ythhknonaebnooaa
open Go.RowKit
attribute [local go_sem] cell_alloc_old

theorem strict_lt {G : List Int} (h : ∀ j, j < G.length → 0 < j → G.getD (j - 1) 0 < G.getD j 0) {x y : Nat} (hx : x < G.length) (hy : y < G.length) (hxy : x < y) : G[x] < G[y] := by
  have key : ∀ d, x + 1 + d < G.length → G.getD x 0 < G.getD (x + 1 + d) 0 := by
    intro d
    induction d with
    | zero => intro hd; have := h (x + 1) hd (by omega); rw [Nat.add_sub_cancel] at this; exact this
    | succ d ih =>
      intro hd
      have h1 := ih (by omega)
      have h2 := h (x + 1 + (d + 1)) hd (by omega)
      rw [show x + 1 + (d + 1) - 1 = x + 1 + d by omega] at h2
      omega
  have := key (y - x - 1) (by omega)
  rw [show x + 1 + (y - x - 1) = y by omega] at this
  simpa [List.getD, hx, hy] using this
theorem wrap_small {x : Int} (h0 : -1000000 ≤ x) (h1 : x ≤ 1000000000000000000) : IntKind.i64.wrap x = x := by
  have h : IntKind.i64.wrap x = x := by unfold IntKind.wrap; simp [IntKind.signed, IntKind.bits]; omega
  exact h
theorem slice_seg (g q : Nat) {n c s i : Nat} (h1 : s ≤ i) (h2 : i + 1 ≤ c) (w : World) : (Instr.slice 22 (.slice (some ⟨g, q, none⟩) n c) (some (.int .i64 (s : Int))) (some (.int .i64 ((i : Int) + 1))) none).run Try.prog w = .ok (.slice (some ⟨g, q + s, none⟩) (i + 1 - s) (c - s)) w := by
  obtain ⟨i0, hti, hz0, hz1, hz2⟩ := info_parts int_info
  have ht : Try.prog.underlying 22 = some (.slice 3) := Try.underlying22
  have ht' : Try.prog.underlying 22 = some (.slice (Try.prog.elem 22)) := by simp [Program.elem, ht]
  have he : Try.prog.elem 22 = 3 := by simp [Program.elem, ht]
  have hsz : ∀ w, (Go.sizeOf 3).run Try.prog w = .ok 1 w := fun w => by simp [sizeOf, typeInfo, hti, hz1]
  have e2 : ((i : Int) + 1).toNat = i + 1 := by omega
  rw [run_slice_lh w 22 _ _ _ ht' .i64 .i64 _ _ (by omega) (by omega) (by omega), he, hsz, e2]
  have hne : ¬ c = s := by omega
  by_cases h0 : s = 0
  · subst h0
    simp [Result.andThen, sliced, Addr.add, hne]
  · simp [Result.andThen, sliced, Addr.add, hne, h0]
theorem seg_let {b : Bu} {l : List Int} (h : rightB b l = true) (s i : Nat) : ∀ k, k < (seg l s i).length → 0 ≤ (seg l s i).getD k 0 ∧ (seg l s i).getD k 0 < b.letters := fun k hk => by
  have h1 : (seg l s i).getD k 0 ∈ l := by
    have := mem_getD hk
    unfold seg at this ⊢
    exact List.mem_of_mem_take (List.mem_of_mem_drop this)
  obtain ⟨j, hj, e⟩ := List.getElem_of_mem h1
  have := right_let h hj
  have e2 : l.getD j 0 = l[j] := by simp [List.getD, hj]
  rw [e2, e] at this
  exact this
theorem RdI.nd {w w' : World} {tb sb : Nat} {A : Option Addr} {c : Nat} {l : List Int} (h : RdI w (ND tb sb) A c l) (hb : Below w.heap.size w w') : RdI w' (ND tb sb) A c l :=
  ((h.mono (E := fun k => k < w.heap.size ∧ ND tb sb k) fun k hk hl => ⟨hl, hk⟩).keep (Keeps.of_below hb fun _ h => h.1)).mono fun _ h _ => h.2
theorem seg_rd {w : World} {D : Dom} {g q c s i : Nat} {l : List Int} (h : RdI w D (some ⟨g, q, none⟩) c l) (h1 : s ≤ i) (h2 : i + 1 ≤ l.length) (h3 : i + 1 ≤ c) : RdI w D (some ⟨g, q + s, none⟩) (c - s) (seg l s (i + 1)) := by
  have h4 := (h.take h2).cut (k := s) (by simp; omega)
  rw [if_neg (by omega)] at h4
  have e : (some (⟨g, q, none⟩ : Addr)).map (·.add s) = some ⟨g, q + s, none⟩ := by
    show some ((⟨g, q, none⟩ : Addr).add s) = _
    unfold Addr.add
    by_cases h0 : s = 0 <;> simp [h0]
  rw [e] at h4
  exact h4
theorem ints_info : (Try.prog.info? 22).map (fun i => (i.zero, i.size, i.bytes)) = some (some (.slice none 0 0), 1, 24) := by kernel_rfl
set_option maxRecDepth 100000 in
set_option maxHeartbeats 4000000 in
theorem runs_any {D E : Dom} (v : Value) (b : Bu) (A : Option Addr) (c : Nat) (l : List Int) (w : World) (h : RdBu w D v b) (hl : RdI w E A c l) :
    Calls Try.prog 6 #[v, .slice A l.length c] w fun e w' => e = .returned (.bool true) ∧ Below w.heap.size w w' := by
  obtain ⟨i0, hti, hz0, hz1, hz2⟩ := info_parts int_info
  obtain ⟨i1, htj, hy0, hy1, hy2⟩ := info_parts ints_info
  have hz2' : i0.bytes = 8 := hz2
  have hy2' : i1.bytes = 24 := hy2
  have HV := hid h.old
  have HL := hid hl.old
  have hll := hl.len.1
  have hlc := hl.len.2.1
  obtain ⟨As, cs, An, cn, rfl, hs, hn⟩ := h
  clear hs hn hl
  go_enter Try.func6, Try.ntmps6
  go_upto_region 1 with (fail)
  refine wp_gen fun W hW => ?_
  have hB : HasB W w.heap.size #[.int .i64 b.letters, .slice As b.start.length cs, .slice An b.next.length cn] b := by rw [hW]; exact HasB.new HV.out
  have hb : Below w.heap.size w W := by rw [hW]; go_grown
  have HB := hid hB
  have HBW := hid hb
  have HL := hid (HL.out.any hb)
  clear hB hb hW
  go_wp2_with fail
  refine (head_any W).mono ?_
  rintro e W1 ⟨rfl, hb⟩
  have HB := hid (HB.out.below hb)
  have HL := hid (HL.out.any hb)
  have HBW := hid (HBW.out.trans (hb.mono HBW.out.size))
  clear hb
  obtain ⟨o0, o1, o2, ol⟩ := HB.out.cells
  go_wp2_with fail
  refine (right_any _ b A c l W1 HB.out.rd HL.out).mono ?_
  rintro e W2 ⟨rfl, hb⟩
  have HB := hid (HB.out.below hb)
  have HL := hid (HL.out.any hb)
  have HBW := hid (HBW.out.trans (hb.mono HBW.out.size))
  clear hb o0 o1 o2 ol
  by_cases hr : rightB b l = true
  rotate_left
  · have hr : rightB b l = false := by simpa using hr
    go_wp2_with fail
    exact bodyPost_ret (v := .bool true) (by simp [results, Try.results6, go_sem]) rfl ⟨rfl, HBW.out⟩
  obtain ⟨o0, o1, o2, ol⟩ := HB.out.cells
  have HP := hid (sets_law hr)
  have HFEW := hid (right_few hr)
  have HRT := hid hr
  have hn10 := few_len HFEW.out
  go_wp2_with fail
  refine (start_any _ b W2 HB.out.rd).mono ?_
  rintro e W3 ⟨A1, c1, rfl, hb, h1⟩
  have HB := hid (HB.out.below hb)
  have HL := hid (HL.out.any hb)
  have HBW := hid (HBW.out.trans (hb.mono HBW.out.size))
  have HT := hid (show RdN W3 Any A1 c1 (treeAt b l 0) from h1.mono fun _ _ _ => trivial)
  clear hb h1 o0 o1 o2 ol
  obtain ⟨o0, o1, o2, ol⟩ := HB.out.cells
  obtain ⟨N, hN⟩ : ∃ N : Nat, N = 2 * b.next.length + 1 := ⟨_, rfl⟩
  have HNI := hid (show (2 : Int) * (b.next.length : Int) + 1 = (N : Int) by omega)
  have hN21 : N ≤ 21 := by omega
  have HNE := hid hN
  clear hN
  go_upto_region 6 with (fail)
  rw [HNI.out]
  have hmk1 := run_make_zrow (P := Try.prog) 48 22 i1 (.slice none 0 0) 24 Try.underlying48 htj hy0 hy1 hy2 rfl .i64 .i64 N (by omega) (by omega)
  have hmk2 := run_make_zrow (P := Try.prog) 22 3 i0 (.int .i64 0) 8 Try.underlying22 hti hz0 hz1 hz2 rfl .i64 .i64 N (by omega) (by omega)
  go_upto_region 8 with (fail)
  refine wp_gen fun X hX => ?_
  have hbX : Below W3.heap.size W3 X := by rw [hX]; go_grown
  obtain ⟨tb, htb⟩ : ∃ tb, tb = W3.heap.size := ⟨_, rfl⟩
  have hRI : RI X tb (tb + 1) N (fun _ => []) (fun _ => 0) := by
    obtain ⟨w1, h1⟩ : ∃ w1, w1 = W3.alloc (zrow (.slice none 0 0) N 22) := ⟨_, rfl⟩
    have s1 : w1.heap.size = tb + 1 := by rw [h1, htb]; simp
    have m1 : w1.heap[tb]? = some (.cells (List.replicate N (Value.slice none 0 0)).toArray 22 (0, 0)) := by
      rw [h1, htb, heap_alloc_new]
      unfold zrow
      simp
    rw [← h1] at hX
    refine ⟨by omega, ⟨List.replicate N (.slice none 0 0), by simp, ?_, fun v hv => ⟨none, 0, by simp [hv], RdI.nil _ _ _ (by omega)⟩⟩, ?_⟩
    · rw [hX]; exact (((Below.refl w1.heap.size w1).alloc (Nat.le_refl _) _).block _ (lt_of_block m1)).trans m1
    · rw [hX, ← s1, heap_alloc_new]
      unfold zrow
      congr 2
      apply Array.toList_inj.1
      simp [List.map_const']
  have htbX : X.heap.size = tb + 2 := by rw [hX, htb]; simp
  have HRI := hid hRI
  have HB3 := hid HB.out
  have HL3 := hid HL.out
  have HBW3 := hid HBW.out
  have HBX := hid hbX
  have HT := hid (show RdN X (ND tb (tb + 1)) A1 c1 (treeAt b l 0) from ((HT.out.old).keep (Keeps.of_below hbX fun _ h => h)).mono fun k hk _ => ⟨by have hk : k < W3.heap.size := hk; omega, by have hk : k < W3.heap.size := hk; omega⟩)
  have hwt : w.heap.size ≤ tb := by rw [htb]; exact HBW.out.size
  have hwt2 : w.heap.size < tb := by rw [htb]; exact ol
  rw [← htb] at HBX ⊢
  have HTB := hid htb
  clear hX hbX hRI htb hmk1 hmk2 o0 o1 o2 ol HB HL HBW
  go_wp2_with fail
  go_loopw [6, 10] (fun tv q wr => ∃ (i : Nat) (A1 : Option Addr) (c1 : Nat) (thn : Int → List Int) (snc : Int → Nat), i ≤ l.length ∧ tv = .slice A1 (treeAt b l i).length c1 ∧ q = .int .i64 (i : Int) ∧ Below tb W3 wr ∧ RdN wr (ND tb (tb + 1)) A1 c1 (treeAt b l i) ∧ RI wr tb (tb + 1) N thn snc ∧ RunOk b l i (treeAt b l i) thn snc) (fun _ q _ => l.length - (intOf q).toNat)
  case atStart => exact ⟨0, A1, c1, fun _ => [], fun _ => 0, Nat.zero_le _, rfl, rfl, HBX.out, HT.out, HRI.out, fun v hv => absurd rfl hv⟩
  case round =>
    obtain ⟨i, A1, c1, thn, snc, hi, rfl, rfl, hb3, ht, hri, hro⟩ := hrel
    have hb3' : Below W3.heap.size W3 wr := by rw [← HTB.out]; exact hb3
    have HB := hid (HB3.out.below hb3')
    have HL := hid (HL3.out.any hb3')
    have HBW := hid (HBW3.out.trans (hb3'.mono HBW3.out.size))
    have HB3W := hid hb3
    have hwtl := hri.lt
    have HTT := hid ht
    have HRI := hid hri
    have HRO := hid hro
    have htree := (HP.out i hi).1
    have HTREE := hid htree
    clear hb3 hb3' ht hri hro htree
    by_cases hil : i < l.length
    · have hili : (i : Int) < l.length := by omega
      obtain ⟨g1, q1, a, hA, _, hg1l, HXA, hca⟩ := HL.out.get hil
      have hlet : 0 ≤ a ∧ a < b.letters := by have := right_let HRT.out hil; rw [HXA.out] at this; exact this
      subst hA
      obtain ⟨T, hT⟩ : ∃ T, T = treeAt b l i := ⟨_, rfl⟩
      rw [← hT] at HTT HRO HTREE ⊢
      have HLET := hid hlet
      have HCELL : Hid (∀ W' : World, Below wr.heap.size wr W' → W'.cell? ⟨w.heap.size, 0, none⟩ = some (.int .i64 b.letters) ∧ W'.cell? ⟨w.heap.size, 1, none⟩ = some (.slice As b.start.length cs) ∧ W'.cell? ⟨w.heap.size, 2, none⟩ = some (.slice An b.next.length cn) ∧ W'.cell? ⟨g1, q1 + i, none⟩ = some (.int .i64 a)) := hid fun W' hb => by
        obtain ⟨o0, o1, o2, ol⟩ := (HB.out.below hb).cells
        exact ⟨o0, o1, o2, (hb.cell (p := ⟨g1, q1 + i, none⟩) hg1l).trans hca⟩
      have HI1 := hid (show Below wr.heap.size wr wr.drew from (Below.refl _ _).drew)
      have HI2 := hid (show ∀ i, Below wr.heap.size wr (wr.drewN i) from fun i => (Drawn.n wr i).below _)
      obtain ⟨SF, hSF⟩ : ∃ SF, SF = stepF b T a := ⟨_, rfl⟩
      have HCALL : Hid (∀ W' : World, Below wr.heap.size wr W' → Calls Try.prog 12 #[.agg #[.int .i64 b.letters, .slice As b.start.length cs, .slice An b.next.length cn], .slice A1 T.length c1, .int .i64 a] W' fun e W'' => ∃ (A5 AG AB : Option Addr) (c5 cG cB : Nat), e = .returned (.tuple #[.slice A5 SF.tree.length c5, .agg #[.slice AG SF.good.length cG, .slice AB SF.bad.length cB]]) ∧ Below wr.heap.size wr W'' ∧ Below W'.heap.size W' W'' ∧ RdN W'' (fun k => W'.heap.size ≤ k) A5 c5 SF.tree ∧ RdI W'' (fun k => W'.heap.size ≤ k) AG cG SF.good ∧ RdI W'' (fun k => W'.heap.size ≤ k) AB cB SF.bad) := hid fun W' hb => by
        refine (pstepf_any _ b A1 c1 T a W' (HB.out.below hb).rd (HTT.out.any hb) HFEW.out).mono ?_
        rw [← hSF]
        rintro e W'' ⟨A5, AG, AB, c5, cG, cB, rfl, h1, h2, h3, h4⟩
        exact ⟨A5, AG, AB, c5, cG, cB, rfl, hb.trans (h1.mono hb.size), h1, h2, h3, h4⟩
      obtain ⟨o0, o1, o2, hca'⟩ := HCELL.out wr (Below.refl _ _)
      have HSF := hid hSF
      have HTE := hid hT
      clear hca hSF hT hlet
      go_upto_region 11 with (fail)
      go_region_held3 (fun W' : World => W'.cell? ⟨w.heap.size, 0, none⟩ = some (.int .i64 b.letters) ∧ W'.cell? ⟨w.heap.size, 1, none⟩ = some (.slice As b.start.length cs) ∧ W'.cell? ⟨w.heap.size, 2, none⟩ = some (.slice An b.next.length cn) ∧ W'.cell? ⟨g1, q1 + i, none⟩ = some (.int .i64 a))
        (first
          | (with_reducible exact HCELL.out _ hI)
          | (with_reducible exact HCELL.out _ (hI.alloc hI.size _))
          | (with_reducible exact HCELL.out _ (HI1.out.alloc (Nat.le_refl _) _))
          | (with_reducible exact HCELL.out _ ((HI2.out _).alloc (Nat.le_refl _) _))
          | (with_reducible exact HCELL.out _ (below_set (below_set hI (Nat.le_refl _) _) (Nat.le_refl _) _))
          | (with_reducible exact HCELL.out _ (below_set hI (Nat.le_refl _) _))
          | (go_keep; done))
        (first
          | (go_at_call 12; with_reducible refine (HCALL.out _ (by first | exact HI1.out | exact HI2.out _)).mono ?_; rintro e W6 ⟨A5, AG, AB, c5, cG, cB, rfl, hI, -, hx1, hx2, hx3⟩)
          | (go_at_call 12; refine calls_gen fun WB hWB => ?_
             have hIB : Below wr.heap.size wr WB := by first | (rw [hWB]; exact HI1.out.alloc (Nat.le_refl _) _) | (rw [hWB]; exact (HI2.out _).alloc (Nat.le_refl _) _) | (rw [hWB]; exact (HI1.out.alloc (Nat.le_refl _) _).drew) | (rw [hWB]; exact ((Below.refl _ wr).alloc (Nat.le_refl _) _).drew) | (rw [hWB]; exact below_drewN ((Below.refl _ wr).alloc (Nat.le_refl _) _) _)
             have hzB : WB.heap[wr.heap.size]? = some (.cells #[.slice none 0 0, .slice none 0 0] 31 (0, 0)) := by rw [hWB]; first | exact heap_alloc_new wr.drew _ | exact heap_alloc_new (wr.drewN _) _ | exact heap_alloc_new wr _
             clear hWB
             with_reducible refine (HCALL.out _ hIB).mono ?_
             rintro e W6 ⟨A5, AG, AB, c5, cG, cB, rfl, hI, hb9, hx1, hx2, hx3⟩
             have hzN := (hb9.block _ (lt_of_block hzB)).trans hzB
             have z0 := block_cell hzN (i := 0) rfl
             have z1 := block_cell hzN (i := 1) rfl
             have zf0 := block_free hzN (i := 0)
             have zf1 := block_free hzN (i := 1)
             have hwB := lt_of_block hzB
             clear hzB hIB hb9))
      all_goals
        first
          | (obtain ⟨W8, hW8⟩ : ∃ W8, W8 = ((W6.setCell ⟨wr.heap.size, 0, none⟩ (.slice AG SF.good.length cG)).setCell ⟨wr.heap.size, 1, none⟩ (.slice AB SF.bad.length cB)) := ⟨_, rfl⟩
             rw [← hW8]
             have hb8 : Below wr.heap.size wr W8 := by rw [hW8]; exact below_set (below_set hI (Nat.le_refl _) _) (Nat.le_refl _) _
             have hev : W8.heap[wr.heap.size]? = some (.cells #[.slice AG SF.good.length cG, .slice AB SF.bad.length cB] 31 (0, 0)) := by rw [hW8]; exact set_block (set_block hzN _) _
             have hkk : Keeps (fun k => WB.heap.size ≤ k) W6 W8 := by rw [hW8]; exact ((Keeps.refl _ W6).set (p := ⟨wr.heap.size, 0, none⟩) (by show ¬ WB.heap.size ≤ wr.heap.size; omega) _).set (p := ⟨wr.heap.size, 1, none⟩) (by show ¬ WB.heap.size ≤ wr.heap.size; omega) _
             have hy1 : RdN W8 (fun k => wr.heap.size ≤ k) A5 c5 SF.tree := (hx1.keep hkk).mono fun k hk _ => by have hk : WB.heap.size ≤ k := hk; show wr.heap.size ≤ k; omega
             have hy2 : RdI W8 (fun k => wr.heap.size ≤ k) AG cG SF.good := (hx2.keep hkk).mono fun k hk _ => by have hk : WB.heap.size ≤ k := hk; show wr.heap.size ≤ k; omega
             have hy3 : RdI W8 (fun k => wr.heap.size ≤ k) AB cB SF.bad := (hx3.keep hkk).mono fun k hk _ => by have hk : WB.heap.size ≤ k := hk; show wr.heap.size ≤ k; omega
             have he8 : wr.heap.size ≤ wr.heap.size := Nat.le_refl _
             obtain ⟨eb, heb⟩ : ∃ eb, eb = wr.heap.size := ⟨_, rfl⟩
             rw [show W8.heap[wr.heap.size]? = W8.heap[eb]? by rw [heb]] at hev
             have he8 : wr.heap.size ≤ eb := by omega
             rw [← heb]
             clear hW8 hkk heb hzN z0 z1 zf0 zf1 hwB)
          | (obtain ⟨W8, hW8⟩ : ∃ W8, W8 = W6.alloc (.cells #[.slice AG SF.good.length cG, .slice AB SF.bad.length cB] 31) := ⟨_, rfl⟩
             rw [← hW8]
             have hb8 : Below wr.heap.size wr W8 := by rw [hW8]; exact hI.alloc hI.size _
             obtain ⟨eb, heb⟩ : ∃ eb, eb = W6.heap.size := ⟨_, rfl⟩
             have hev : W8.heap[eb]? = some (.cells #[.slice AG SF.good.length cG, .slice AB SF.bad.length cB] 31 (0, 0)) := by rw [hW8, heb]; exact heap_alloc_new W6 _
             have hkk : Keeps (fun k => wr.heap.size ≤ k) W6 W8 := by rw [hW8]; exact (Keeps.refl _ W6).alloc _
             have hy1 : RdN W8 (fun k => wr.heap.size ≤ k) A5 c5 SF.tree := hx1.keep hkk
             have hy2 : RdI W8 (fun k => wr.heap.size ≤ k) AG cG SF.good := hx2.keep hkk
             have hy3 : RdI W8 (fun k => wr.heap.size ≤ k) AB cB SF.bad := hx3.keep hkk
             have he8 : wr.heap.size ≤ eb := by rw [heb]; exact hI.size
             rw [← heb]
             clear hW8 hkk heb)
        have HB8 := hid (HB.out.below hb8)
        have HL8 := hid (HL.out.any hb8)
        have HBW8 := hid (HBW.out.trans (hb8.mono HBW.out.size))
        have HB3W8 := hid (HB3W.out.trans (hb8.mono (Nat.le_of_lt hwtl.1)))
        have hnd : ∀ k, wr.heap.size ≤ k → ND tb (tb + 1) k := fun k hk => ⟨by omega, by omega⟩
        have HX8 := hid (hy1.mono fun k hk _ => hnd k hk)
        have HG8 := hid (hy2.mono fun k hk _ => hnd k hk)
        have HD8 := hid (hy3.mono fun k hk _ => hnd k hk)
        have HRI8 := hid (HRI.out.later hb8)
        have HEV8 := hid hev
        have hebt : eb ≠ tb ∧ eb ≠ tb + 1 := hnd eb he8
        have hXA : l.getD i 0 = a := HXA.out
        have hnds := step_nds HTREE.out HLET.out.1 HLET.out.2
        have hno := names_ok HTREE.out HLET.out.1 HLET.out.2
        have hgood := fun g => @run_good b l i T thn snc HTREE.out hil (by rw [hXA]; exact HLET.out.1) (by rw [hXA]; exact HLET.out.2) HRO.out g
        have hnext := run_next HTREE.out hil (by rw [hXA]; exact HLET.out.1) (by rw [hXA]; exact HLET.out.2) HRO.out
        simp only [hXA, ← HSF.out] at hgood hnext
        rw [← HSF.out] at hnds hno
        have hT1 : treeAt b l (i + 1) = SF.tree := by rw [HSF.out, ← hXA, HTE.out]; rfl
        have hnrng : ∀ p, p < T.length → 1 ≤ (nd T p).name ∧ (nd T p).name < (N : Int) := fun p hp => by
          have := tree_up (treeB_all HTREE.out).2.2 hp
          have := HNE.out
          omega
        have HNDS := hid hnds
        have HNO := hid hno
        have HGOOD := hid hgood
        have HNEXT := hid hnext
        have HT1 := hid hT1
        have HRNG := hid hnrng
        obtain ⟨X, G, Bd⟩ := SF
        have hgl := hy2.len.1
        have hbl := hy3.len.1
        clear hI hx1 hx2 hx3 hy1 hy2 hy3 hb8 hev hnd hnds hno hgood hnext hT1 hnrng o0 o1 o2 hca' HCELL HCALL HI1 HI2 hXA
        have eG : (⟨X, G, Bd⟩ : StepR).good = G := rfl
        have eB : (⟨X, G, Bd⟩ : StepR).bad = Bd := rfl
        have eX : (⟨X, G, Bd⟩ : StepR).tree = X := rfl
        rw [eG] at hgl HG8 HNDS HNO HGOOD HNEXT
        rw [eB] at hbl HD8 HNDS HNO HNEXT
        rw [eX] at HX8 HNDS HNO HGOOD HNEXT HT1
        rw [eG, eB] at HEV8
        clear eG eB eX
        go_wp2_with fail
        go_loopw [13] (fun q wr => ∃ k : Nat, k ≤ Bd.length ∧ q = .int .i64 (k : Int) ∧ Chg (fun j => j = tb ∨ j = tb + 1) W8 wr ∧ RI wr tb (tb + 1) N (thB (Bd.take k) thn) snc) (fun q _ => Bd.length - (intOf q).toNat)
        case atStart => exact ⟨0, Nat.zero_le _, rfl, Chg.refl _ _, HRI8.out.congr (fun v _ => by unfold thB; simp [inB]) (fun v _ => rfl)⟩
        case round =>
          obtain ⟨k, hk, rfl, hch, hri⟩ := hrel
          have HCH := hid hch
          have HRIK := hid hri
          have hkeep : Keeps (ND tb (tb + 1)) W8 wr := ⟨hch.size, fun j hj hl => hch.block j hl (fun e => e.elim hj.1 hj.2)⟩
          have hek := (hch.block eb (lt_of_block HEV8.out) (fun e => e.elim hebt.1 hebt.2)).trans HEV8.out
          have v0 := block_cell hek (i := 0) rfl
          have v1 := block_cell hek (i := 1) rfl
          have HKP := hid hkeep
          clear hch hri hkeep hek
          by_cases hlk : k < Bd.length
          · have hki : (k : Int) < Bd.length := by omega
            obtain ⟨gb, ob, g, hAB, _, hgbl, HGG, hc⟩ := (HD8.out.keep HKP.out).get hlk
            subst hAB
            obtain ⟨p, hp, _, hpn⟩ := HNDS.out.bad g (by rw [← HGG.out]; exact mem_getD hlk)
            have hr := HRNG.out p hp
            rw [hpn] at hr
            obtain ⟨gn, rfl⟩ : ∃ gn : Nat, g = (gn : Int) := ⟨g.toNat, by omega⟩
            have hgn : gn < N := by omega
            have hgni : (gn : Int) < N := by omega
            have d1 : decide ((gn : Int) < 0) = false := decide_eq_false (by omega)
            have d2 : decide ((N : Int) ≤ (gn : Int)) = false := decide_eq_false (by omega)
            obtain ⟨At, ct, t1, t2, t3⟩ := HRIK.out.get hgn
            have hst := (HRIK.out.setT hgn (A := none) (c := 0) (r := []) (RdI.nil _ _ _ (by omega))).congr (thn' := thB (Bd.take (k + 1)) thn) (fun v _ => by rw [thB_succ Bd thn hlk, HGG.out]) (fun v _ => rfl)
            have HST := hid hst
            clear hpn hp hr t2 hst
            go_wp2_with fail
            go_roundw
            case rel => exact ⟨k + 1, by omega, by go_num, HCH.out.set _ _ (fun _ => .inl rfl), HST.out⟩
            case measure => simp [intOf]; omega
          · have hke : Bd.take k = Bd := List.take_of_length_le (by omega)
            rw [hke] at HRIK
            obtain ⟨W9, hW9⟩ : ∃ W9, W9 = wr := ⟨_, rfl⟩
            rw [← hW9] at HCH HRIK HKP v0 v1 ⊢
            clear hW9 hke
            go_wp2_with fail
            obtain ⟨thn9, hthn9⟩ : ∃ f, f = thB Bd thn := ⟨_, rfl⟩
            rw [← hthn9] at HRIK HNEXT
            have hthn : ∀ g : Int, thn9 g ≠ [] → thn9 g = thn g := fun g hg => by
              rw [hthn9] at hg ⊢
              unfold thB at hg ⊢
              split
              · rename_i h; rw [if_pos h] at hg; exact absurd rfl hg
              · rfl
            have HTHN := hid hthn
            clear hthn hthn9
            go_loopw [14] (fun q wr => ∃ k : Nat, k ≤ G.length ∧ q = .int .i64 (k : Int) ∧ Chg (fun j => j = tb ∨ j = tb + 1) W9 wr ∧ RI wr tb (tb + 1) N (thG X G k thn9) (snG G i k snc)) (fun q _ => G.length - (intOf q).toNat)
            case atStart => exact ⟨0, Nat.zero_le _, rfl, Chg.refl _ _, HRIK.out.congr (fun v _ => by unfold thG; simp [inB]) (fun v _ => by unfold snG; simp [inB])⟩
            case round =>
              obtain ⟨k, hk, rfl, hch, hri⟩ := hrel
              have hch8 : Chg (fun j => j = tb ∨ j = tb + 1) W8 wr := HCH.out.trans hch
              have HC8 := hid hch8
              have HC9 := hid hch
              have HRK := hid hri
              have hkeep : Keeps (ND tb (tb + 1)) W8 wr := ⟨hch8.size, fun j hj hl => hch8.block j hl (fun e => e.elim hj.1 hj.2)⟩
              have hek := (hch8.block eb (lt_of_block HEV8.out) (fun e => e.elim hebt.1 hebt.2)).trans HEV8.out
              have v0 := block_cell hek (i := 0) rfl
              have v1 := block_cell hek (i := 1) rfl
              have HKP2 := hid hkeep
              have HXR := hid (HX8.out.keep hkeep)
              have HGR := hid (HG8.out.keep hkeep)
              have HBWR := hid (HBW8.out.trans (hch8.below (B := w.heap.size) (fun j hj e => by omega) HBW8.out.size))
              have HB3R := hid (HB3W8.out.trans (hch8.below (B := tb) (fun j hj e => by omega) (Nat.le_of_lt HRI8.out.lt.1)))
              have hb3' : Below W3.heap.size W3 wr := by rw [← HTB.out]; exact HB3R.out
              have HBR := hid (HB3.out.below hb3')
              have HLR := hid (HL3.out.any hb3')
              clear hch hri hch8 hkeep hek hb3'
              by_cases hlk : k < G.length
              · have hki : (k : Int) < G.length := by omega
                obtain ⟨gb, ob, g, hAG, _, hgbl, HGG, hc⟩ := HGR.out.get hlk
                subst hAG
                have hgm : g ∈ G := by rw [← HGG.out]; exact mem_getD hlk
                obtain ⟨p, hp, hps, hpn, -⟩ := HNDS.out.good g hgm
                have hr := HRNG.out p hp
                rw [hpn] at hr
                have hpl := HNO.out.old p hp
                rw [if_pos hps, hpn] at hpl
                obtain ⟨q1, -⟩ := newT_place (b := b) (a := a) hp hps
                have hqX : cnt b T a p < X.length := by rw [HNDS.out.tree, newT_len]; exact q1
                obtain ⟨pn, hpn'⟩ : ∃ pn, pn = cnt b T a p := ⟨_, rfl⟩
                rw [← hpn'] at hpl hqX
                have hpni : (pn : Int) < X.length := by omega
                obtain ⟨gn, rfl⟩ : ∃ gn : Nat, g = (gn : Int) := ⟨g.toNat, by omega⟩
                have hgn : gn < N := by omega
                have hgni : (gn : Int) < N := by omega
                have d1 : decide ((gn : Int) < 0) = false := decide_eq_false (by omega)
                have d2 : decide ((N : Int) ≤ (gn : Int)) = false := decide_eq_false (by omega)
                have d3 : decide ((pn : Int) < 0) = false := decide_eq_false (by omega)
                have hnot : inB (G.take k) (gn : Int) = false := by
                  rw [← HGG.out]
                  refine strict_notin (List.pairwise_iff_getElem.2 fun x y hx hy hxy => ?_) hlk
                  exact strict_lt (fun j hj h0 => (HNO.out.good j hj).2.2 h0) hx hy hxy
                have htg : thG X G k thn9 (gn : Int) = thn9 (gn : Int) := by unfold thG; rw [hnot]; rfl
                have hsg : snG G i k snc (gn : Int) = snc (gn : Int) := by unfold snG; rw [hnot]; rfl
                obtain ⟨At, ct, t1, t2, t3⟩ := HRK.out.get hgn
                obtain ⟨s1, s2⟩ := HRK.out.time hgn
                rw [htg] at t1 t2
                rw [hsg] at s1
                obtain ⟨gx, ox, Ax, cx, x, hA5, _, hgxl, HXX, hxr, x0, x1, x2⟩ := HXR.out.get hqX
                subst hA5
                have hns : nset X (gn : Int) = x.set := by unfold nset; rw [hpl, Int.toNat_natCast]; unfold nd; rw [HXX.out]
                have hck := fun hne => HGOOD.out (gn : Int) hgm hne
                rw [hns] at hck
                have hst2 : ∀ W' : World, Below wr.heap.size wr W' → RI ((W'.setCell ⟨tb, gn, none⟩ (.slice Ax x.set.length cx)).setCell ⟨tb + 1, gn, none⟩ (.int .i64 ((i + 1 : Nat) : Int))) tb (tb + 1) N (thG X G (k + 1) thn9) (snG G i (k + 1) snc) := fun W' hb => by
                  have h1 := ((HRK.out.later hb).setT hgn (A := Ax) (c := cx) (r := x.set) (hxr.nd hb)).congr (thn' := thG X G (k + 1) thn9) (fun v _ => by rw [thG_succ X G thn9 hlk, HGG.out, hns]) (fun v _ => rfl)
                  exact (h1.setS hgn (i + 1)).congr (snc' := snG G i (k + 1) snc) (fun v _ => rfl) (fun v _ => by rw [snG_succ G i snc hlk, HGG.out])
                have hpc := place_any _ c5 X (gn : Int) wr HXR.out
                rw [hpl] at hpc
                have HPC := hid hpc
                have HXX2 := hid (show nd X pn = x from HXX.out)
                have HXS := hid hxr
                have HSTE := hid hst2
                have HCK := hid hck
                obtain ⟨S0, hS0⟩ : ∃ S0, S0 = thn9 (gn : Int) := ⟨_, rfl⟩
                rw [← hS0] at t1 t2
                have HT2' := hid t2
                have HS0 := hid hS0
                obtain ⟨sc, hsc⟩ : ∃ sc, sc = snc (gn : Int) := ⟨_, rfl⟩
                rw [← hsc] at s1
                have HSC := hid hsc
                have ht2l := t2.len.1
                clear hpc hxr hst2 hck t2 hns hnot htg hsg hpn hr hpl hpn' hp hps q1 hgm hS0 hsc
                have hck' : S0 ≠ [] → sc ≤ i ∧ (∀ z ∈ S0, 0 ≤ z ∧ z < (b.next.length : Int)) ∧ ∀ z ∈ x.set, z ∈ (movedZ b S0 (seg l sc (i + 1))).2 := fun hne => by
                  have h1 := HTHN.out (gn : Int) (by rw [← HS0.out]; exact hne)
                  have h2 : thn (gn : Int) = S0 := by rw [← h1, HS0.out]
                  have h3 := HRO.out (gn : Int) (by rw [h2]; exact hne)
                  rw [h2, ← HSC.out] at h3
                  refine ⟨h3.le, h3.rng, ?_⟩
                  have h4 := HCK.out (by rw [h2]; exact hne)
                  rw [h2, ← HSC.out] at h4
                  exact h4
                have HCK2 := hid hck'
                clear hck'
                go_wp2_with fail
                refine HPC.out.mono ?_
                rintro e w9 ⟨rfl, rfl⟩
                by_cases hne : 0 < S0.length
                · have hnd3 : decide ((0 : Int) < (S0.length : Int)) = true := decide_eq_true (by omega)
                  obtain ⟨k1, k2, k3⟩ := HCK2.out (fun e => by rw [e] at hne; simp at hne)
                  have hsci : sc ≤ i := k1
                  have hsegl : (seg l sc (i + 1)).length = i + 1 - sc := by unfold seg; simp; omega
                  go_upto_region 26 with (fail)
                  have hcell26 : ∀ W' : World, Below w9.heap.size w9 W' → W'.cell? ⟨w.heap.size, 0, none⟩ = some (.int .i64 b.letters) ∧ W'.cell? ⟨w.heap.size, 1, none⟩ = some (.slice As b.start.length cs) ∧ W'.cell? ⟨w.heap.size, 2, none⟩ = some (.slice An b.next.length cn) ∧ W'.cell? ⟨tb, gn, none⟩ = some (.slice At S0.length ct) ∧ W'.cell? ⟨tb + 1, gn, none⟩ = some (.int .i64 (sc : Int)) := fun W' hb => by
                    obtain ⟨o0, o1, o2, _⟩ := (HBR.out.below hb).cells
                    obtain ⟨l1, l2⟩ := HRK.out.lt
                    exact ⟨o0, o1, o2, (hb.cell (p := ⟨tb, gn, none⟩) l1).trans t1, (hb.cell (p := ⟨tb + 1, gn, none⟩) l2).trans s1⟩
                  have HCELL := hid hcell26
                  have HI1 := hid (show Below w9.heap.size w9 w9.drew from (Below.refl _ _).drew)
                  have HI2 := hid (show ∀ i, Below w9.heap.size w9 (w9.drewN i) from fun i => (Drawn.n w9 i).below _)
                  obtain ⟨o0, o1, o2, _, _⟩ := HCELL.out w9 (Below.refl _ _)
                  have hslice := slice_seg g1 q1 (n := l.length) hsci (show i + 1 ≤ c by omega)
                  have hwr1 : IntKind.i64.wrap ((i : Int) + 1) = (i : Int) + 1 := wrap_small (by omega) (by omega)
                  have hseg : RdI w9 Any (some ⟨g1, q1 + sc, none⟩) (c - sc) (seg l sc (i + 1)) := seg_rd HLR.out hsci (show i + 1 ≤ l.length by omega) (show i + 1 ≤ c by omega)
                  have HSEG := hid hseg
                  clear hseg
                  obtain ⟨M2, hM2⟩ : ∃ M2, M2 = (movedZ b S0 (seg l sc (i + 1))).2 := ⟨_, rfl⟩
                  rw [← hM2] at k3
                  have HK3 := hid k3
                  have HCALL : Hid (∀ W' : World, Below w9.heap.size w9 W' → Calls Try.prog 27 #[.agg #[.int .i64 b.letters, .slice As b.start.length cs, .slice An b.next.length cn], .slice At S0.length ct, .slice (some ⟨g1, q1 + sc, none⟩) (i + 1 - sc) (c - sc)] W' fun e W'' => ∃ (A2 : Option Addr) (n2 c2 : Nat) (AG2 : Option Addr) (cG2 : Nat), e = .returned (.tuple #[.slice A2 n2 c2, .slice AG2 M2.length cG2]) ∧ Below w9.heap.size w9 W'' ∧ RdI W'' Any AG2 cG2 M2) := hid fun W' hb => by
                    have h1 := moved_any _ b At ct S0 (some ⟨g1, q1 + sc, none⟩) (c - sc) (seg l sc (i + 1)) W' ((HBR.out.below hb).rd) (HT2'.out.any hb) (HSEG.out.any hb) (right_buchi HRT.out) k2 (seg_let HRT.out sc (i + 1))
                    rw [hsegl] at h1
                    refine h1.mono ?_
                    rintro e W'' ⟨A2, c2, AG2, cG2, rfl, g1', g2'⟩
                    exact ⟨A2, _, c2, AG2, cG2, by rw [hM2], hb.trans (g1'.mono hb.size), by rw [hM2]; exact g2'⟩
                  have h0c := hsci
                  clear hcell26 k1 k2 k3 hM2
                  go_region_held3 (fun W' : World => W'.cell? ⟨w.heap.size, 0, none⟩ = some (.int .i64 b.letters) ∧ W'.cell? ⟨w.heap.size, 1, none⟩ = some (.slice As b.start.length cs) ∧ W'.cell? ⟨w.heap.size, 2, none⟩ = some (.slice An b.next.length cn) ∧ W'.cell? ⟨tb, gn, none⟩ = some (.slice At S0.length ct) ∧ W'.cell? ⟨tb + 1, gn, none⟩ = some (.int .i64 (sc : Int)))
                    (first | (with_reducible exact HCELL.out _ hI) | (go_keep; done))
                    ((go_at_call 27; refine (HCALL.out _ (by first | exact HI1.out | exact HI2.out _)).mono ?_; rintro e W6 ⟨A6, n6, c6, AG6, cG6, rfl, hI, hr6⟩))
                  all_goals
                    have HRI6 := hid (HRK.out.later hI)
                    have HX6 := hid (HXR.out.any hI)
                    have HXS6 := hid (HXS.out.nd hI)
                    have HR6 := hid hr6
                    have HC6 := hid (HC9.out.trans (Chg.of_new hI))
                    have HI6 := hid hI
                    have x2' : W6.cell? ⟨gx, ox + pn * 3 + 2, none⟩ = some (.slice Ax x.set.length cx) := (hI.cell (p := ⟨gx, ox + pn * 3 + 2, none⟩) hgxl).trans x2
                    obtain ⟨At', ct', t1', _, t3'⟩ := (HRK.out.later hI).get hgn
                    obtain ⟨s1', s2'⟩ := (HRK.out.later hI).time hgn
                    have hxl := (HXS.out.nd hI).len.1
                    clear hI hr6 o0 o1 o2 x0 x1 x2 t1 t3 s1 s2 v0 v1 h0c
                    go_wp2_with fail
                    go_loopw [19] (fun q wr => ∃ j : Nat, j ≤ x.set.length ∧ q = .int .i64 (j : Int) ∧ wr = W6) (fun q _ => x.set.length - (intOf q).toNat)
                    case atStart => exact ⟨0, Nat.zero_le _, rfl, rfl⟩
                    case round =>
                      obtain ⟨j, hj, rfl, rfl⟩ := hrel
                      by_cases hjl : j < x.set.length
                      · have hji : (j : Int) < x.set.length := by omega
                        obtain ⟨gz, oz, z, hAx, _, _, HZ, hz⟩ := HXS6.out.get hjl
                        subst hAx
                        have hin := in_any AG6 cG6 M2 z wr HR6.out
                        rw [inB_iff.2 (HK3.out z (by rw [← HZ.out]; exact mem_getD hjl))] at hin
                        have HIN := hid hin
                        clear hin
                        go_wp2_with fail
                        refine HIN.out.mono ?_
                        rintro e w9' ⟨rfl, rfl⟩
                        go_wp2_with fail
                        go_roundw
                        case rel => exact ⟨j + 1, by omega, by go_num, by first | rfl | trivial⟩
                        case measure => simp [intOf]; omega
                      · go_wp2_with fail
                        go_roundw
                        case rel => exact ⟨k + 1, by omega, by go_num, (HC6.out.set _ _ (fun _ => .inl rfl)).set _ _ (fun _ => .inr rfl), HSTE.out _ HI6.out⟩
                        case measure => simp [intOf]; omega
                · have hnd3 : decide ((0 : Int) < (S0.length : Int)) = false := decide_eq_false (by omega)
                  have hnd4 : S0.length = 0 := by omega
                  go_wp2_with fail
                  go_roundw
                  case rel => exact ⟨k + 1, by omega, by go_num, (HC9.out.set _ _ (fun _ => .inl rfl)).set _ _ (fun _ => .inr rfl), HSTE.out _ (Below.refl _ _)⟩
                  case measure => simp [intOf]; omega
              · have hkG : k = G.length := by omega
                have HKG := hid hkG
                clear hkG
                go_wp2_with fail
                go_roundw
                case rel =>
                  have hn := HNEXT.out
                  have hr := HRK.out
                  rw [HKG.out] at hr
                  refine ⟨i + 1, _, _, _, _, by omega, by rw [HT1.out], by go_num, HB3R.out, ?_, hr, ?_⟩
                  · rw [HT1.out]; exact HXR.out
                  · rw [HT1.out]; exact hn
                case measure => simp [intOf]; omega
    · go_wp2_with fail
      exact bodyPost_ret (v := .bool true) (by simp [results, Try.results6, go_sem]) rfl ⟨rfl, HBW.out⟩
end Go.Proofs.Ythhknonaebnooaa
