/-
  Walk of nodes: an iterator over the nodes of a formula; the range statement over it.
  Walk of nodes; the law for a range statement over the nodes of a formula.
  Walk of Past.
-/
import Derived.Test.YtdakdpfofgkjoaaGreatDoorZ08
import Derived.Shelf.Abstract
import Derived.Shelf.AbstractIn
set_option linter.unusedVariables false
set_option linter.unusedSimpArgs false
namespace Go.Proofs.YtdakdpfofgkjoaaGreatDoor
open Go.RowKit
attribute [local go_sem] cell_alloc_old run_store_func

theorem build_put (p : Option Addr) (q : Bool) (w : World) : (Instr.build 105 #[(0, .pointer p), (1, .bool q)]).run Tryz.prog w = .ok (.agg #[.pointer p, .bool q]) w := run_build w 105 _ _ (by kernel_rfl)
attribute [local go_sem] build_put
theorem at_new (w : World) (o : Obj) (i : Nat) (h : i = w.heap.size) : (w.alloc o).heap[i]? = some o := by rw [h]; exact heap_alloc_new w o
theorem at_old (w : World) (o : Obj) (i : Nat) (h : i < w.heap.size) : (w.alloc o).heap[i]? = w.heap[i]? := Below.heap_alloc _ _ _ h
set_option maxRecDepth 100000 in
set_option maxHeartbeats 4000000 in
theorem nodes1_any {l : Nat} {Z : Dom} {B0 B1 : Nat} {J : Nat → World → Prop} {X : World → Prop} (f : Fm) (hR : RoundsF l (preL false f) Z B0 B1 J X) (hB : 0 < B0) (b o pb : Nat) (A : Option Addr) (c : Nat) (w : World)
    (hw : w.heap.size = B1) (hBB : B0 ≤ B1) (hf : HasF w (· < B0) b o f A c) (hp : w.cell? ⟨pb, 0, none⟩ = some (.pointer (some ⟨b, o, none⟩))) (hg : GF w) (hd : f.depth ≤ 5000) (hj : J 0 w) :
    Calls Tryz.prog 74 #[.func (.yield l) #[] #[], .pointer (some ⟨pb, 0, none⟩)] w fun e w' => (∃ v, e = .returned v) ∧ Chg Z w w' ∧ (J f.size w' ∨ X w') := by
  subst hw
  have HR := hid hR
  have HH := hid hf
  have HG := hid hg
  have HJ := hid hj
  have HD := hid hd
  have hpl := World.block_lt_of_cell? w _ hp
  clear hR hf hg hj hd
  go_enter Tryz.func74, Tryz.ntmps74
  go_upto_region 3 with (fail)
  refine wp_gen fun W hW => ?_
  have hbw : Below w.heap.size w W := by rw [hW]; go_grown
  have e0 : W.heap[w.heap.size]? = some (.cells #[.func (.yield l) #[] #[]] 103 (0, 0)) := by
    rw [hW, at_old _ _ _ (by simp only [World.size_alloc]; omega), at_old _ _ _ (by simp only [World.size_alloc]; omega), at_old _ _ _ (by simp only [World.size_alloc]; omega), at_new _ _ _ rfl]
  have e1 : W.heap[w.heap.size + 1]? = some (.cells #[.pointer (some ⟨b, o, none⟩), .bool false] 105 (0, 0)) := by
    rw [hW, at_old _ _ _ (by simp only [World.size_alloc]; omega), at_old _ _ _ (by simp only [World.size_alloc]; omega), at_new _ _ _ (by simp only [World.size_alloc])]
  have e2 : W.heap[w.heap.size + 1 + 1]? = some (.cells #[.slice (some ⟨w.heap.size + 1, 0, none⟩) 1 1] 106 (0, 0)) := by
    rw [hW, at_old _ _ _ (by simp only [World.size_alloc]; omega), at_new _ _ _ (by simp only [World.size_alloc])]
  have e3 : W.heap[w.heap.size + 1 + 1 + 1]? = some (.cells #[.nilFunc] 107 (0, 0)) := by
    rw [hW, at_new _ _ _ (by simp only [World.size_alloc])]
  have hws : W.heap.size = w.heap.size + 4 := by rw [hW]; simp only [World.size_alloc]
  clear hW hp
  have z0 := block_cell e3 (i := 0) rfl
  have z1 := block_free e3 (i := 0)
  have HE0 := hid e0
  have HE1 := hid e1
  have HE2 := hid e2
  have HE3 := hid e3
  have HBW := hid hbw
  have HWS := hid hws
  clear e0 e1 e2 e3 hbw hws
  go_upto_region 4 with (fail)
  go_wp2_with fail
  refine wp_gen fun W3 hW => ?_
  have hvb3 : VisB W3 l (w.heap.size + 1 + 1) w.heap.size (w.heap.size + 1 + 1 + 1) := by
    refine ⟨?_, ?_⟩
    · rw [hW, Below.heap_setCell _ _ _ _ (by simp only []; omega)]; exact HE0.out
    · rw [hW, set_block HE3.out]; rfl
  have e1 : W3.heap[w.heap.size + 1]? = some (.cells #[.pointer (some ⟨b, o, none⟩), .bool false] 105 (0, 0)) := by
    rw [hW, Below.heap_setCell _ _ _ _ (by simp only []; omega)]; exact HE1.out
  have e2 : W3.heap[w.heap.size + 1 + 1]? = some (.cells #[.slice (some ⟨w.heap.size + 1, 0, none⟩) 1 1] 106 (0, 0)) := by
    rw [hW, Below.heap_setCell _ _ _ _ (by simp only []; omega)]; exact HE2.out
  have hb3 : Below w.heap.size w W3 := by
    rw [hW]
    exact HBW.out.trans ((Chg.set (V := fun k => k = w.heap.size + 1 + 1 + 1) (Chg.refl _ W) _ _ fun _ => rfl).below (fun b hb => by omega) HBW.out.size)
  have hs3 : W3.heap.size = w.heap.size + 4 := by rw [hW]; simpa using HWS.out
  have HV3 := hid hvb3
  have HE1' := hid e1
  have HE2' := hid e2
  have HB3 := hid hb3
  have HS3 := hid hs3
  clear hW hvb3 e1 e2 hb3 hs3 z0 z1 HE0 HE1 HE2 HE3 HBW HWS
  go_loopg [5] 1 (fun gk s5 wr => (gk = 1 ∧ SameW W3 wr) ∨ (gk = 0 ∧ wr.heap[w.heap.size + 1 + 1]? = some (.cells #[.slice (some ⟨w.heap.size + 1, 0, none⟩) 0 1] 106 (0, 0)) ∧ Chg Z w wr ∧ J f.size wr))
  case atStart => exact .inl ⟨rfl, rfl⟩
  case round =>
    rcases hrel with ⟨rfl, hw⟩ | ⟨rfl, hE, hc, hj⟩
    · obtain rfl : W3 = wr := hw.symm
      have t0 := block_cell HE2'.out (i := 0) rfl
      have t1 := block_free HE2'.out (i := 0)
      have p0 := block_cell HE1'.out (i := 0) rfl
      have p1 := block_cell HE1'.out (i := 1) rfl
      have hl1 := lt_of_block HE1'.out
      have hl2 := lt_of_block HE2'.out
      go_upto_region 7 with (fail)
      refine wp_gen fun W7 hW => ?_
      have hb7 : Below w.heap.size w W7 := by
        rw [hW]
        exact (HB3.out.trans ((Chg.set (V := fun k => k = w.heap.size + 1 + 1) (Chg.refl _ W3) _ _ fun _ => rfl).below (fun b hb => by omega) HB3.out.size)).alloc (by simp; have := HS3.out; omega) _
      have hc7 : Chg (fun k => k = w.heap.size + 1 + 1) W3 W7 := by
        rw [hW]
        exact (Chg.set (V := fun k => k = w.heap.size + 1 + 1) (Chg.refl _ W3) _ _ fun _ => rfl).alloc _
      have hv7 : VisB W7 l (w.heap.size + 1 + 1) w.heap.size (w.heap.size + 1 + 1 + 1) := HV3.out.chg hc7 (by omega) (by omega)
      have ht7 : W7.heap[w.heap.size + 1 + 1]? = some (.cells #[.slice (some ⟨w.heap.size + 1, 0, none⟩) 0 1] 106 (0, 0)) := by
        rw [hW, at_old _ _ _ (by simpa using hl2), set_block HE2'.out]; rfl
      have hp7 : W7.heap[W3.heap.size]? = some (.cells #[.pointer (some ⟨b, o, none⟩), .bool false] 105 (0, 0)) := by
        rw [hW]; exact at_new _ _ _ (by simp)
      have hs7 : w.heap.size + 5 ≤ W7.heap.size := by rw [hW]; simp; have := HS3.out; omega
      have f0 := block_cell hv7.v (i := 0) rfl
      have u0 := block_cell hp7 (i := 0) rfl
      have u1 := block_cell hp7 (i := 1) rfl
      have hlu := lt_of_block hp7
      have HCALL : Hid (Calls Tryz.prog 75 #[.pointer (some ⟨b, o, none⟩), .bool false, .int .i64 0, .pointer (some ⟨w.heap.size + 1 + 1, 0, none⟩), .pointer (some ⟨w.heap.size, 0, none⟩), .pointer (some ⟨w.heap.size + 1 + 1 + 1, 0, none⟩)] W7 fun e W9 => Chg Z W7 W9 ∧ ∃ r, e = .returned (.bool r) ∧ (r = true → J (0 + f.size) W9) ∧ (r = false → X W9)) :=
        hid (visit_any HR.out (w.heap.size + 1 + 1) w.heap.size (w.heap.size + 1 + 1 + 1) (by omega) (by omega) hB f false b o A c 0 0 W7 ((HH.out.keep (Keeps.of_below hb7 fun _ h => by omega))) (HG.out.below hb7 (by omega)) hv7 hs7 (HR.out.keep _ _ _ HJ.out (Chg.of_new hb7)) (by rw [List.drop_zero, ← preL_len false f, List.take_length]) (by have := HD.out; omega))
      have HT7 := hid ht7
      have HB7 := hid hb7
      clear hW hb7 hc7 hv7 ht7 hp7 t0 t1 p0 p1 hl1 hl2
      go_wp2_with (first | (go_at_call 75; with_reducible refine HCALL.out.mono ?_; rintro e W9 ⟨hI, (_ | _), rfl, hJ, hX⟩))
      · have hc9 := (Chg.of_new (V := Z) HB7.out).trans hI
        exact bodyPost_ret (results_none rfl _ _ _) rfl ⟨⟨_, rfl⟩, hc9, .inr (hX trivial)⟩
      · have HC9 := hid ((Chg.of_new (V := Z) HB7.out).trans hI)
        have HCI := hid hI
        have HCJ := hid hJ
        clear hI hJ hX f0 u0 u1 hlu
        go_roundg 0
        case rel =>
          refine .inr ⟨rfl, ?_, HC9.out, ?_⟩
          · exact HCI.out.box HT7.out (fun h => by have := HR.out.z _ h; omega)
          · have := HCJ.out trivial
            rwa [Nat.zero_add] at this
        all_goals omega
    · have t0 := block_cell hE (i := 0) rfl
      have HC := hid hc
      have HJE := hid hj
      clear hc hj hE
      go_wp2_with fail
      go_end0
      exact ⟨⟨_, rfl⟩, HC.out, .inl HJE.out⟩
end Go.Proofs.YtdakdpfofgkjoaaGreatDoor
set_option linter.unusedVariables false
set_option linter.unusedSimpArgs false
namespace Go.Proofs.YtdakdpfofgkjoaaGreatDoor
open Go.RowKit Go.Shelf
attribute [local go_sem] cell_alloc_old run_store_func

/-- What a round of a loop over nodes must come to. -/
def RndPost (Z : Dom) (I : Nat → World → Prop) (Ix : Code → World → Prop) (k : Nat) (W : World) : Exit → Act → World → Prop
  | .normal, _, W' => Chg Z W W' ∧ I (k + 1) W'
  | .ret, _, W' => Chg Z W W' ∧ Ix .ret W'
  | .exit id, _, W' => Chg Z W W' ∧ Ix (.exit id) W'
  | .goto t, _, W' => Chg Z W W' ∧ Ix (.goto t) W'
  | .panic _, _, _ => False
  | .outgrown, _, _ => False
theorem Chg.putObj (w : World) (l : Nat) (o : Obj) : Chg (fun b => b = l) w (w.putObj l o) := ⟨rfl, rfl, rfl, by simp, fun b _ hb => World.putObj_heap_other hb⟩
set_option maxRecDepth 100000 in
set_option maxHeartbeats 4000000 in
theorem range_nodes {g : Operand} {ps : Array Tmp} {assign body : Code} {Q : Exit → Act → World → Prop} {a : Act} {w : World} (f : Fm) (b o pb B0 : Nat) (A : Option Addr) (c : Nat) (Z : Dom) (I : Nat → World → Prop) (Ix : Code → World → Prop)
    (hg : a.eval g = .func (.func 74) #[] #[.pointer (some ⟨pb, 0, none⟩)]) (hps : ps.size = 2)
    (hf : HasF w (· < B0) b o f A c) (hB : 0 < B0) (hBw : B0 ≤ w.heap.size) (hp : w.cell? ⟨pb, 0, none⟩ = some (.pointer (some ⟨b, o, none⟩))) (hgf : GF w) (hd : f.depth ≤ 5000)
    (hZ : ∀ b, Z b → B0 ≤ b ∧ (b < w.heap.size ∨ w.heap.size + 7 ≤ b))
    (hI : ∀ k W W', I k W → Chg (fun b => w.heap.size ≤ b ∧ b < w.heap.size + 7) W W' → I k W')
    (hIx : ∀ c W W', Ix c W → Chg (fun b => w.heap.size ≤ b ∧ b < w.heap.size + 7) W W' → Ix c W') (h0 : I 0 w)
    (a₁ : Value → Bool → Act)
    (hassign : ∀ (l : Nat) (p : Value) (q : Bool) (W : World) (K : Act → World → Prop), K (a₁ p q) W →
      assign.wpIn (Fence.wide.inRound l) 0 Tryz.prog (Exit.then K (fun _ _ _ => False)) { tmps := (ps.zip #[p, .bool q]).foldl (fun t (p, v) => t.setIfInBounds p v) a.tmps, defers := [] } W)
    (hround : ∀ (l k : Nat) (W : World) (b o : Nat) (A : Option Addr) (c : Nat), w.heap.size + 7 ≤ W.heap.size → GF W → Chg Z w W → I k W → k < (preL false f).length → HasF W (· < B0) b o ((preL false f).getD k default).1 A c →
      body.wpIn (Fence.wide.inRound l) 0 Tryz.prog (RndPost Z I Ix k W) (a₁ (.pointer (some ⟨b, o, none⟩)) ((preL false f).getD k default).2) W)
    (hdone : ∀ W, Chg Z w W → I f.size W → W.heap[w.heap.size]? = some (.deferred (some [])) → Q .normal { a with defers := { target := .collected w.heap.size, args := #[] } :: a.defers } W)
    (hstop : ∀ c W, Chg Z w W → Ix c W → W.heap[w.heap.size]? = some (.deferred (some [])) → c.wp Tryz.prog Q { a with defers := { target := .collected w.heap.size, args := #[] } :: a.defers } W) :
    (Code.rangeFunc g ps assign body).wp Tryz.prog Q a w := by
  refine (wpIn_wide (n := 3)).1 (wpIn_rangeFunc fun fn _ => ?_)
  obtain ⟨rec, hrec⟩ : ∃ rec : LoopState → Option Code → Loop, rec = fun st pe => { state := st, pending := pe, fn, tmps := a.tmps, params := ps, assign, body, defers := w.heap.size } := ⟨_, rfl⟩
  obtain ⟨W1, hW1⟩ : ∃ W1, (w.alloc (.deferred (some []))).alloc (.loop (rec .ready none)) = W1 := ⟨_, rfl⟩
  have hL1 : W1.heap[w.heap.size + 1]? = some (.loop (rec .ready none)) := by rw [← hW1]; exact at_new _ _ _ (by simp)
  have hK1 : W1.heap[w.heap.size]? = some (.deferred (some [])) := by rw [← hW1, at_old _ _ _ (by simp)]; exact at_new _ _ _ rfl
  have hs1 : W1.heap.size = w.heap.size + 2 := by rw [← hW1]; simp
  have hb1 : Below w.heap.size w W1 := by rw [← hW1]; exact ((Below.refl _ w).alloc (Nat.le_refl _) _).alloc (by simp) _
  refine ⟨w.heap.size + 1, [{ target := .collected w.heap.size, args := #[] }], W1, { target := .fn (.func 74) #[.pointer (some ⟨pb, 0, none⟩)], args := #[.func (.yield (w.heap.size + 1)) #[] #[]] }, W1, 74,
    #[.func (.yield (w.heap.size + 1)) #[] #[]] ++ #[.pointer (some ⟨pb, 0, none⟩)], W1, ?_, ?_, ?_, ?_, ?_, ?_⟩
  · rw [← hW1, hrec]; exact run_enterLoop_outer _ _ _ _ _
  · simp only [resolve, hg]
    simp [go_sem]
  · exact fun f' _ => trivial
  · simp [invoke, go_sem, enters_of Tryz.func74 (by kernel_rfl) rfl]
  · intro hd; simp [Fence.wide] at hd
  · have own : ∀ W W' : World, Chg (fun b => w.heap.size + 2 ≤ b ∧ b < w.heap.size + 7) W W' → Chg (fun b => w.heap.size ≤ b ∧ b < w.heap.size + 7) W W' := fun W W' h => h.mono fun b _ hb => ⟨by omega, hb.2⟩
    have ownL : ∀ W W' : World, Chg (fun b => b = w.heap.size + 1) W W' → Chg (fun b => w.heap.size ≤ b ∧ b < w.heap.size + 7) W W' := fun W W' h => h.mono fun b _ hb => by omega
    refine callsIn_wide.2 ((nodes1_any (l := w.heap.size + 1) (Z := fun b => Z b ∨ b = w.heap.size + 1) (B0 := B0) (B1 := w.heap.size + 2)
      (J := fun k W => I k W ∧ Chg Z w W ∧ W.heap[w.heap.size + 1]? = some (.loop (rec .ready none)) ∧ W.heap[w.heap.size]? = some (.deferred (some [])))
      (X := fun W => ∃ c, Ix c W ∧ Chg Z w W ∧ W.heap[w.heap.size + 1]? = some (.loop (rec .done (some c))) ∧ W.heap[w.heap.size]? = some (.deferred (some [])))
      f ⟨?_, ?_, ?_, ?_⟩ hB b o pb A c W1 hs1 (by omega) (hf.keep (Keeps.of_below hb1 fun k (hk : k < B0) => by omega)) ?_ (hgf.below hb1 (by omega)) hd ⟨hI 0 w W1 h0 (Chg.of_new hb1), Chg.of_new hb1, hL1, hK1⟩).mono ?_)
    · rintro b (hb | hb)
      · have := hZ b hb; exact ⟨this.1, by omega⟩
      · omega
    · rintro k W W' ⟨hi, hc, hl, hk⟩ hw
      exact ⟨hI k W W' hi (own _ _ hw), hc.trans' hw fun b _ hb => by omega, hw.box hl (by omega), hw.box hk (by omega)⟩
    · rintro W W' ⟨c, hi, hc, hl, hk⟩ hw
      exact ⟨c, hIx c W W' hi (own _ _ hw), hc.trans' hw fun b _ hb => by omega, hw.box hl (by omega), hw.box hk (by omega)⟩
    · rintro k W b o A c hsz hgw ⟨hi, hc, hl, hk⟩ hlen hfw
      have hlt : w.heap.size + 1 < W.heap.size := lt_of_block hl
      have hy := run_yield (P := Tryz.prog) (args := #[.pointer (some ⟨b, o, none⟩), .bool ((preL false f).getD k default).2]) hl (by rw [hrec]; exact hps.symm)
      rw [hrec] at hy
      refine ⟨fn, _, assign, body, hy, roundIn_of_wpIn trivial (hassign _ _ _ W _ ⟨_, run_beginRound hl (by rw [hrec]), ?_⟩)⟩
      obtain ⟨Wb, hWb⟩ : ∃ Wb, Wb = W.putObj (w.heap.size + 1) (.loop { rec .ready none with state := .busy }) := ⟨_, rfl⟩
      rw [← hWb]
      have hcb : Chg (fun b => b = w.heap.size + 1) W Wb := by rw [hWb]; exact Chg.putObj _ _ _
      have hl2 : Wb.heap[w.heap.size + 1]? = some (.loop { rec .ready none with state := .busy }) := by rw [hWb]; exact World.putObj_heap_same hlt
      have hk2 : Wb.heap[w.heap.size]? = some (.deferred (some [])) := hcb.box hk (by omega)
      have hsb : W.heap.size ≤ Wb.heap.size := hcb.size
      refine wpIn_mono (hround _ k Wb b o A c (by omega) (hgw.chg hcb (by omega)) (hc.trans' hcb fun b _ hb => by omega) (hI _ _ _ hi (ownL _ _ hcb)) hlen (hfw.keep (hcb.keeps fun k _ (hk : k < B0) => by omega))) ?_
      have fin : ∀ (jump : Option Code) (W3 : World), Chg Z Wb W3 →
          (Instr.endRound (w.heap.size + 1) jump).run Tryz.prog W3 = .ok (.bool jump.isNone) (W3.putObj (w.heap.size + 1) (.loop (rec (if jump.isNone then .ready else .done) jump))) ∧
          Chg (fun b => b = w.heap.size + 1) W3 (W3.putObj (w.heap.size + 1) (.loop (rec (if jump.isNone then .ready else .done) jump))) ∧
          Chg (fun b => Z b ∨ b = w.heap.size + 1) W (W3.putObj (w.heap.size + 1) (.loop (rec (if jump.isNone then .ready else .done) jump))) ∧
          Chg Z w (W3.putObj (w.heap.size + 1) (.loop (rec (if jump.isNone then .ready else .done) jump))) ∧
          (W3.putObj (w.heap.size + 1) (.loop (rec (if jump.isNone then .ready else .done) jump))).heap[w.heap.size + 1]? = some (.loop (rec (if jump.isNone then .ready else .done) jump)) ∧
          (W3.putObj (w.heap.size + 1) (.loop (rec (if jump.isNone then .ready else .done) jump))).heap[w.heap.size]? = some (.deferred (some [])) := fun jump W3 hc3 => by
        have hl3 := hc3.box hl2 (fun h => by have := hZ _ h; omega)
        have hk3 := hc3.box hk2 (fun h => by have := hZ _ h; omega)
        have hcp := Chg.putObj W3 (w.heap.size + 1) (.loop (rec (if jump.isNone then .ready else .done) jump))
        have hr := run_endRound (P := Tryz.prog) jump hl3
        rw [hrec] at hr hcp ⊢
        refine ⟨hr, hcp, ?_, ?_, World.putObj_heap_same (lt_of_block hl3), hcp.box hk3 (by omega)⟩
        · exact ((hcb.mono fun b _ hb => .inr hb).trans (hc3.mono fun b _ hb => .inl hb)).trans (hcp.mono fun b _ hb => .inr hb)
        · exact ((hc.trans' hcb fun b _ hb => by omega).trans hc3).trans' hcp fun b _ hb => by omega
      rintro e a3 W3 hp
      cases e with
      | normal =>
        obtain ⟨hc3, hi3⟩ := hp
        obtain ⟨hr, hcp, hcW, hcw, hl4, hk4⟩ := fin none W3 hc3
        exact ⟨_, _, hr, hcW, .inl ⟨rfl, hI _ _ _ hi3 (ownL _ _ hcp), hcw, hl4, hk4⟩⟩
      | ret =>
        obtain ⟨hc3, hi3⟩ := hp
        obtain ⟨hr, hcp, hcW, hcw, hl4, hk4⟩ := fin (some .ret) W3 hc3
        exact ⟨_, _, hr, hcW, .inr ⟨rfl, _, hIx _ _ _ hi3 (ownL _ _ hcp), hcw, hl4, hk4⟩⟩
      | exit id =>
        obtain ⟨hc3, hi3⟩ := hp
        obtain ⟨hr, hcp, hcW, hcw, hl4, hk4⟩ := fin (some (.exit id)) W3 hc3
        exact ⟨_, _, hr, hcW, .inr ⟨rfl, _, hIx _ _ _ hi3 (ownL _ _ hcp), hcw, hl4, hk4⟩⟩
      | goto t =>
        obtain ⟨hc3, hi3⟩ := hp
        obtain ⟨hr, hcp, hcW, hcw, hl4, hk4⟩ := fin (some (.goto t)) W3 hc3
        exact ⟨_, _, hr, hcW, .inr ⟨rfl, _, hIx _ _ _ hi3 (ownL _ _ hcp), hcw, hl4, hk4⟩⟩
      | panic ch => exact hp.elim
      | outgrown => exact hp.elim
    · exact (hb1.cell (p := ⟨pb, 0, none⟩) (World.block_lt_of_cell? w _ hp)).trans hp
    · rintro e W2 ⟨⟨v, rfl⟩, hc2, (⟨hi, hc, hl, hk⟩ | ⟨c, hi, hc, hl, hk⟩)⟩
      · refine ⟨none, _, by have := run_endLoop (P := Tryz.prog) hl (by rw [hrec]; simp); rw [hrec] at this; exact this, ?_⟩
        have hcp := Chg.putObj W2 (w.heap.size + 1) (.loop { rec .ready none with state := .exhausted })
        rw [hrec] at hcp
        exact hdone _ (hc.trans' hcp fun b _ hb => by omega) (hI _ _ _ hi (ownL _ _ hcp)) (hcp.box hk (by omega))
      · refine ⟨some c, _, by have := run_endLoop (P := Tryz.prog) hl (by rw [hrec]; simp); rw [hrec] at this; exact this, ?_⟩
        have hcp := Chg.putObj W2 (w.heap.size + 1) (.loop { rec .done (some c) with state := .exhausted })
        rw [hrec] at hcp
        exact wpIn_wide.2 (hstop c _ (hc.trans' hcp fun b _ hb => by omega) (hIx _ _ _ hi (ownL _ _ hcp)) (hcp.box hk (by omega)))
set_option maxHeartbeats 1000000 in
theorem nodes_any (p : Option Addr) (w : World) :
    Calls Tryz.prog 45 #[.pointer p] w fun e w' => e = .returned (.func (.func 74) #[] #[.pointer (some ⟨w.heap.size, 0, none⟩)]) ∧ w' = w.alloc (.cells #[.pointer p] 64) := by
  have hmf : ∀ (fn : Fn) (first cap : Array Value) (w : World), (Instr.makeFunc fn first cap).run Tryz.prog w = .ok (.func fn first cap) w := fun _ _ _ _ => rfl
  go_enter Tryz.func45, Tryz.ntmps45
  go_wp2_with fail
  go_ret
  exact ⟨rfl, rfl⟩
end Go.Proofs.YtdakdpfofgkjoaaGreatDoor
set_option linter.unusedVariables false
set_option linter.unusedSimpArgs false
namespace Go.Proofs.YtdakdpfofgkjoaaGreatDoor
open Go.RowKit Go.Shelf
attribute [local go_sem] cell_alloc_old Oper.semAt_some

theorem wpIn_gen {F : Fence} {n : Nat} {P : Program} {c : Code} {Q : Exit → Act → World → Prop} {a : Act} {w : World} (h : ∀ W, W = w → c.wpIn F n P Q a W) : c.wpIn F n P Q a w := h w rfl
theorem at_set {w : World} {p : Addr} {u : Value} {b : Nat} (h : b ≠ p.block) : (w.setCell p u).heap[b]? = w.heap[b]? := Below.heap_setCell _ _ _ _ h
def allTo (q : Fm × Bool → Bool) (f : Fm) (k : Nat) : Prop := ∀ j, j < k → q ((preL false f).getD j default) = true
theorem allTo_zero (q : Fm × Bool → Bool) (f : Fm) : allTo q f 0 := fun j h => absurd h (Nat.not_lt_zero _)
theorem allTo_succ {q : Fm × Bool → Bool} {f : Fm} {k : Nat} (h : allTo q f k) (h2 : q ((preL false f).getD k default) = true) : allTo q f (k + 1) := fun j hj => by
  rcases Nat.lt_succ_iff_lt_or_eq.1 hj with h3 | h3
  · exact h j h3
  · rw [h3]; exact h2
theorem getD_mem' {l : List (Fm × Bool)} {k : Nat} (h : k < l.length) : l.getD k default ∈ l := by simp [List.getD, h]
def allB (q : Fm × Bool → Bool) (f : Fm) : Bool := (preL false f).all q
theorem allB_true {q : Fm × Bool → Bool} {f : Fm} (h : allTo q f f.size) : allB q f = true := by
  unfold allB
  rw [List.all_eq_true]
  intro x hx
  obtain ⟨i, hi, he⟩ := List.getElem_of_mem hx
  have := h i (by rw [← preL_len false f]; exact hi)
  rw [List.getD_eq_getElem?_getD, List.getElem?_eq_getElem hi, he] at this
  exact this
theorem allB_false {q : Fm × Bool → Bool} {f : Fm} {k : Nat} (hk : k < (preL false f).length) (h : q ((preL false f).getD k default) = false) : allB q f = false := by
  unfold allB
  rw [List.all_eq_false]
  refine ⟨(preL false f).getD k default, getD_mem' hk, by rw [h]; simp⟩
/-- A function whose body held a range over a function returns. -/
theorem marks_ret {P : Program} {fn : Func} {R : Ending → World → Prop} {a : Act} {w : World} {D : Nat} {v : Value} (hd : a.defers = [{ target := .collected D, args := #[] }]) (hD : w.heap[D]? = some (.deferred (some [])))
    (hr : ∀ w', Chg (fun b => b = D) w w' → (results fn a.tmps).run P w' = .ok v w') (h : ∀ w', Chg (fun b => b = D) w w' → R (.returned v) w') : bodyPostM Fence.wide 3 P fn R .ret a w := by
  show LeavesInM Fence.wide 3 P fn a.tmps R a.defers .returning w
  rw [hd]
  exact ⟨by simp, .inl ⟨_, _, rfl, run_takeDeferred hD, v, hr _ (Chg.putObj _ _ _), h _ (Chg.putObj _ _ _)⟩⟩
def pastQ (x : Fm × Bool) : Bool := !(formZ x.1.op).future
set_option maxRecDepth 100000 in
set_option maxHeartbeats 4000000 in
theorem past_any {D : Dom} (f : Fm) (v : Value) (w : World) (h : RdF3 w D v f) (hg : GF w) (hd : f.depth ≤ 5000) :
    Calls Tryz.prog 63 #[v] w fun e w' => e = .returned (.bool (allB pastQ f)) ∧ Below w.heap.size w w' := by
  obtain ⟨A, c, rfl, ha⟩ := h
  have HA := hid ha.old
  have HG := hid hg
  have HD := hid hd
  clear ha hg hd
  refine (callsIn_wide (n := 3)).1 (callsIn_of_wp_marks Tryz.func63 rfl trivial ?_ rfl)
  simp only [Tryz.ntmps63, List.size_toArray, List.length_cons, List.length_nil, Nat.reduceAdd, Nat.reduceSub, Array.replicate_succ, Array.replicate_zero, List.push_toArray, List.append_toArray, List.nil_append, List.cons_append]
  refine wpIn_wide.2 ?_
  go_upto_region 1 with (fail)
  refine wp_gen fun W hW => ?_
  have hb : Below w.heap.size w W := by rw [hW]; go_grown
  have e0 : Box5 W w.heap.size f A c := by
    show W.heap[w.heap.size]? = _
    rw [hW, at_old _ _ _ (by simp)]; exact at_new _ _ _ rfl
  have e1 : W.heap[w.heap.size + 1]? = some (.cells #[.bool false] 4 (0, 0)) := by rw [hW]; exact at_new _ _ _ (by simp)
  have hs : W.heap.size = w.heap.size + 2 := by rw [hW]; simp
  have HB := hid hb
  have HE0 := hid e0
  have HE1 := hid e1
  have HS := hid hs
  clear hW hb e0 e1 hs
  go_wp2_with (first | (go_at_call 45; refine (nodes_any _ W).mono ?_; rintro e w2 ⟨rfl, rfl⟩))
  refine wp_gen fun W2 hW2 => ?_
  have hb2 : Below W.heap.size W W2 := by rw [hW2]; go_grown
  have hp2 : W2.cell? ⟨W.heap.size, 0, none⟩ = some (.pointer (some ⟨w.heap.size, 0, none⟩)) := by rw [hW2]; exact block_cell (at_new _ _ _ rfl) (i := 0) rfl
  have hs2 : W2.heap.size = w.heap.size + 3 := by rw [hW2]; simp; exact HS.out
  have HB2 := hid (HB.out.trans (hb2.mono HB.out.size))
  have hE1 : W2.heap[w.heap.size + 1]? = some (.cells #[.bool false] 4 (0, 0)) := (hb2.block _ (by have := HS.out; omega)).trans HE1.out
  have HF := hid (Box5.hasF (D := (· < w.heap.size + 1)) (HE0.out.below hb2) (Nat.lt_succ_self _) ((HA.out.keep (Keeps.of_below HB2.out fun _ h => h)).mono fun k hk _ => Nat.lt_succ_of_lt hk))
  have HP := hid hp2
  have HS2 := hid hs2
  have HE1' := hid hE1
  have HG2 := hid (HG.out.below HB2.out HG.out.pos)
  clear hW2 hb2 hp2 hs2 hE1
  refine range_nodes f w.heap.size 0 W.heap.size (w.heap.size + 1) A c (fun b => b = w.heap.size + 1)
    (fun k W' => allTo pastQ f k ∧ W'.heap[w.heap.size + 1]? = some (.cells #[.bool false] 4 (0, 0)))
    (fun c W' => c = .ret ∧ allB pastQ f = false ∧ W'.heap[w.heap.size + 1]? = some (.cells #[.bool false] 4 (0, 0)))
    rfl rfl HF.out (by omega) (by have := HS2.out; omega) HP.out HG2.out HD.out ?hZ ?hI ?hIx ⟨allTo_zero _ _, HE1'.out⟩ ?a1 ?hassign ?hround ?hdone ?hstop
  case hassign =>
    intro l p q W K hK
    gi_wp2
    exact hK
  case hZ => intro b hb; have := HS2.out; omega
  case hI => rintro k W3 W4 ⟨h1, h2⟩ hc; exact ⟨h1, hc.box h2 (by have := HS2.out; omega)⟩
  case hIx => rintro c W3 W4 ⟨h0, h1, h2⟩ hc; exact ⟨h0, h1, hc.box h2 (by have := HS2.out; omega)⟩
  case hround =>
    rintro l k W3 b o A' c' hs3 hg3 hc3 ⟨hk1, hk2⟩ hlen hf3
    obtain ⟨gd, gl, g0, g1, g2, g3, g4, ga⟩ := hf3
    have hfo := (formof_any ((preL false f).getD k default).1.op W3 hg3)
    obtain ⟨x, hx⟩ : ∃ x, x = (preL false f).getD k default := ⟨_, rfl⟩
    rw [← hx] at hfo g0
    unfold formV at hfo
    have HK1 := hid hk1
    have HK2 := hid hk2
    have HX := hid hx
    have HLEN := hid hlen
    clear hk1 hk2 hg3 ga hx hlen
    have hfn1 : Fence.wide.fn 49 := trivial
    have hfd : Fence.wide.depth = none := rfl
    have hq : pastQ x = !(formZ x.1.op).future := rfl
    have HQ := hid hq
    clear hq
    cases hfu : (formZ x.1.op).future <;> rw [hfu] at hfo <;> (have HFU := hid hfu) <;> clear hfu
    · gi_wp2_with (gi_at_call 49; refine (CallsIn.inRound l (callsIn_wide.2 hfo)).mono ?_; rintro e W4 ⟨rfl, hb4⟩)
      have hc4 := (Chg.of_new (V := fun b => b = w.heap.size + 1) hb4).alloc (.cells #[.int .i64 (formZ x.1.op).least, .int .i64 (formZ x.1.op).most, .int .i64 (formZ x.1.op).val, .int .i64 (formZ x.1.op).bound, .bool (formZ x.1.op).named, .bool (formZ x.1.op).past, .bool false, .bool (formZ x.1.op).loose] 84)
      refine ⟨hc4, allTo_succ HK1.out (by rw [← HX.out, HQ.out, HFU.out]; rfl), ?_⟩
      rw [at_old _ _ _ (by have := lt_of_block HK2.out; have := hb4.size; omega)]
      exact (hb4.block _ (lt_of_block HK2.out)).trans HK2.out
    · gi_wp2_with (gi_at_call 49; refine (CallsIn.inRound l (callsIn_wide.2 hfo)).mono ?_; rintro e W4 ⟨rfl, hb4⟩; have q0 := (hb4.block _ (lt_of_block HK2.out)).trans HK2.out; have r0 := block_cell q0 (i := 0) rfl; have r1 := block_free q0 (i := 0); have r2 := lt_of_block q0)
      refine ⟨((Chg.of_new (V := fun b => b = w.heap.size + 1) hb4).set ⟨w.heap.size + 1, 0, none⟩ (.bool false) (fun _ => rfl)).alloc _, rfl, allB_false HLEN.out (by rw [← HX.out, HQ.out, HFU.out]; rfl), ?_⟩
      rw [at_old _ _ _ (by simpa using r2), set_block q0]
      rfl
  case hdone =>
    rintro W3 hc ⟨h1, h2⟩ hD3
    have r0 := block_cell h2 (i := 0) rfl
    have r1 := block_free h2 (i := 0)
    have r2 := lt_of_block h2
    dsimp only
    go_wp2_with fail
    have hD4 := (at_set (w := W3) (p := ⟨w.heap.size + 1, 0, none⟩) (u := .bool true) (show W2.heap.size ≠ w.heap.size + 1 by have := HS2.out; omega)).trans hD3
    have e4 : (W3.setCell ⟨w.heap.size + 1, 0, none⟩ (.bool true)).heap[w.heap.size + 1]? = some (.cells #[.bool true] 4 (0, 0)) := by rw [set_block h2]; rfl
    have hc4 := (HB2.out.trans (hc.below (B := w.heap.size) (fun b hb => by omega) HB2.out.size)).setCell (p := ⟨w.heap.size + 1, 0, none⟩) (Nat.le_succ _) (.bool true)
    refine marks_ret rfl hD4 (v := .bool true) (fun w' hc' => ?_) (fun w' hc' => ⟨by rw [allB_true h1], hc4.trans (hc'.below (fun b hb => by have := HS2.out; omega) hc4.size)⟩)
    have := block_cell (hc'.box e4 (by have := HS2.out; omega)) (i := 0) rfl
    simp [results, Tryz.results63, go_sem, this]
  case hstop =>
    rintro c W3 hc ⟨rfl, h1, h2⟩ hD3
    dsimp only
    go_wp2_with fail
    have hc4 := HB2.out.trans (hc.below (B := w.heap.size) (fun b hb => by omega) HB2.out.size)
    refine marks_ret rfl hD3 (v := .bool false) (fun w' hc' => ?_) (fun w' hc' => ⟨by rw [h1], hc4.trans (hc'.below (fun b hb => by have := HS2.out; omega) hc4.size)⟩)
    have := block_cell (hc'.box h2 (by have := HS2.out; omega)) (i := 0) rfl
    simp [results, Tryz.results63, go_sem, this]
end Go.Proofs.YtdakdpfofgkjoaaGreatDoor
