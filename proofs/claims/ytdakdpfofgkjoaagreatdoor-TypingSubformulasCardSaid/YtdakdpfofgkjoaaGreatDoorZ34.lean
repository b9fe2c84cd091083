/-
  The law for a range statement over typing's nodes; walk of nodes.
  Walk of signal.Find and of typing's nodeError.
-/
import Derived.Test.YtdakdpfofgkjoaaGreatDoorZ33
import Derived.Test.YtdakdpfofgkjoaaGreatDoorZ32
import Derived.Test.YtdakdpfofgkjoaaGreatDoorZ09
set_option linter.unusedVariables false
set_option linter.unusedSimpArgs false
namespace Go.Proofs.YtdakdpfofgkjoaaGreatDoor
open Go.RowKit Go.Shelf
attribute [local go_sem] cell_alloc_old run_store_func

set_option maxRecDepth 100000 in
set_option maxHeartbeats 4000000 in
theorem range_nodesT {g : Operand} {ps : Array Tmp} {assign body : Code} {Q : Exit → Act → World → Prop} {a : Act} {w : World} (f : Fm) (b o pb B0 : Nat) (A : Option Addr) (c : Nat) (Z : Dom) (I : Nat → World → Prop) (Ix : Code → World → Prop)
    (hg : a.eval g = .func (.func 61) #[] #[.pointer (some ⟨pb, 0, none⟩)]) (hps : ps.size = 1)
    (hf : HasF w (· < B0) b o f A c) (hB : 0 < B0) (hBw : B0 ≤ w.heap.size) (hp : w.cell? ⟨pb, 0, none⟩ = some (.pointer (some ⟨b, o, none⟩)))
    (hZ : ∀ b, Z b → B0 ≤ b ∧ (b < w.heap.size ∨ w.heap.size + 4 ≤ b))
    (hI : ∀ k W W', I k W → Chg (fun b => w.heap.size ≤ b ∧ b < w.heap.size + 4) W W' → I k W')
    (hIx : ∀ c W W', Ix c W → Chg (fun b => w.heap.size ≤ b ∧ b < w.heap.size + 4) W W' → Ix c W') (h0 : I 0 w)
    (a₁ : Value → Act)
    (hassign : ∀ (l : Nat) (p : Value) (W : World) (K : Act → World → Prop), K (a₁ p) W →
      assign.wpIn (Fence.wide.inRound l) 0 Tryz.prog (Exit.then K (fun _ _ _ => False)) { tmps := (ps.zip #[p]).foldl (fun t (p, v) => t.setIfInBounds p v) a.tmps, defers := [] } W)
    (hround : ∀ (l k : Nat) (W : World) (b o : Nat) (A : Option Addr) (c : Nat), w.heap.size + 4 ≤ W.heap.size → Chg Z w W → I k W → k < (preL false f).length → HasF W (· < B0) b o ((preL false f).getD k default).1 A c →
      body.wpIn (Fence.wide.inRound l) 0 Tryz.prog (RndPost Z I Ix k W) (a₁ (.pointer (some ⟨b, o, none⟩))) W)
    (hdone : ∀ W, Chg Z w W → I f.size W → W.heap[w.heap.size]? = some (.deferred (some [])) → Q .normal { a with defers := { target := .collected w.heap.size, args := #[] } :: a.defers } W)
    (hstop : ∀ c W, Chg Z w W → Ix c W → W.heap[w.heap.size]? = some (.deferred (some [])) → c.wp Tryz.prog Q { a with defers := { target := .collected w.heap.size, args := #[] } :: a.defers } W) :
    (Code.rangeFunc g ps assign body).wp Tryz.prog Q a w := by
  refine (wpIn_wide (n := 3)).1 (wpIn_rangeFunc fun fn _ => ?_)
  obtain ⟨rec, hrec⟩ : ∃ rec : LoopState → Option Code → Loop, rec = fun st pe => { state := st, pending := pe, fn, tmps := a.tmps, params := ps, assign, body, defers := w.heap.size } := ⟨_, rfl⟩
  obtain ⟨W1, hW1⟩ : ∃ W1, (w.alloc (.deferred (some []))).alloc (.loop (rec .ready none)) = W1 := ⟨_, rfl⟩
  have hL1 : W1.heap[w.heap.size + 1]? = some (.loop (rec .ready none)) := by rw [← hW1]; exact at_new _ _ _ (by simp)
  have hK1 : W1.heap[w.heap.size]? = some (.deferred (some [])) := by rw [← hW1, at_old _ _ _ (by simp)]; exact at_new _ _ _ rfl
  have hs1 : W1.heap.size = w.heap.size + 2 := by rw [← hW1]; simp
  have hb1 : Below w.heap.size w W1 := by rw [← hW1]; exact ((Below.refl _ w).alloc (Nat.le_refl _) _).alloc (by simp) _
  refine ⟨w.heap.size + 1, [{ target := .collected w.heap.size, args := #[] }], W1, { target := .fn (.func 61) #[.pointer (some ⟨pb, 0, none⟩)], args := #[.func (.yield (w.heap.size + 1)) #[] #[]] }, W1, 61,
    #[.func (.yield (w.heap.size + 1)) #[] #[]] ++ #[.pointer (some ⟨pb, 0, none⟩)], W1, ?_, ?_, ?_, ?_, ?_, ?_⟩
  · rw [← hW1, hrec]; exact run_enterLoop_outer _ _ _ _ _
  · simp only [resolve, hg]
    simp [go_sem]
  · exact fun f' _ => trivial
  · simp [invoke, go_sem, enters_of Tryz.func61 (by kernel_rfl) rfl]
  · intro hd; simp [Fence.wide] at hd
  · have own : ∀ W W' : World, Chg (fun b => w.heap.size + 2 ≤ b ∧ b < w.heap.size + 4) W W' → Chg (fun b => w.heap.size ≤ b ∧ b < w.heap.size + 4) W W' := fun W W' h => h.mono fun b _ hb => ⟨by omega, hb.2⟩
    have ownL : ∀ W W' : World, Chg (fun b => b = w.heap.size + 1) W W' → Chg (fun b => w.heap.size ≤ b ∧ b < w.heap.size + 4) W W' := fun W W' h => h.mono fun b _ hb => by omega
    refine callsIn_wide.2 ((nodesT1_any (l := w.heap.size + 1) (Z := fun b => Z b ∨ b = w.heap.size + 1) (B0 := B0) (B1 := w.heap.size + 2)
      (J := fun k W => I k W ∧ Chg Z w W ∧ W.heap[w.heap.size + 1]? = some (.loop (rec .ready none)) ∧ W.heap[w.heap.size]? = some (.deferred (some [])))
      (X := fun W => ∃ c, Ix c W ∧ Chg Z w W ∧ W.heap[w.heap.size + 1]? = some (.loop (rec .done (some c))) ∧ W.heap[w.heap.size]? = some (.deferred (some [])))
      f ⟨?_, ?_, ?_, ?_⟩ hB b o pb A c W1 hs1 (by omega) (hf.keep (Keeps.of_below hb1 fun k (hk : k < B0) => by omega)) ?_ ⟨hI 0 w W1 h0 (Chg.of_new hb1), Chg.of_new hb1, hL1, hK1⟩).mono ?_)
    · rintro b (hb | hb)
      · have := hZ b hb; exact ⟨this.1, by omega⟩
      · omega
    · rintro k W W' ⟨hi, hc, hl, hk⟩ hw
      exact ⟨hI k W W' hi (own _ _ hw), hc.trans' hw fun b _ hb => by omega, hw.box hl (by omega), hw.box hk (by omega)⟩
    · rintro W W' ⟨c, hi, hc, hl, hk⟩ hw
      exact ⟨c, hIx c W W' hi (own _ _ hw), hc.trans' hw fun b _ hb => by omega, hw.box hl (by omega), hw.box hk (by omega)⟩
    · rintro k W b o A c hsz ⟨hi, hc, hl, hk⟩ hlen hfw
      have hlt : w.heap.size + 1 < W.heap.size := lt_of_block hl
      have hy := run_yield (P := Tryz.prog) (args := #[.pointer (some ⟨b, o, none⟩)]) hl (by rw [hrec]; exact hps.symm)
      rw [hrec] at hy
      refine ⟨fn, _, assign, body, hy, roundIn_of_wpIn trivial (hassign _ _ W _ ⟨_, run_beginRound hl (by rw [hrec]), ?_⟩)⟩
      obtain ⟨Wb, hWb⟩ : ∃ Wb, Wb = W.putObj (w.heap.size + 1) (.loop { rec .ready none with state := .busy }) := ⟨_, rfl⟩
      rw [← hWb]
      have hcb : Chg (fun b => b = w.heap.size + 1) W Wb := by rw [hWb]; exact Chg.putObj _ _ _
      have hl2 : Wb.heap[w.heap.size + 1]? = some (.loop { rec .ready none with state := .busy }) := by rw [hWb]; exact World.putObj_heap_same hlt
      have hk2 : Wb.heap[w.heap.size]? = some (.deferred (some [])) := hcb.box hk (by omega)
      have hsb : W.heap.size ≤ Wb.heap.size := hcb.size
      refine wpIn_mono (hround _ k Wb b o A c (by omega) (hc.trans' hcb fun b _ hb => by omega) (hI _ _ _ hi (ownL _ _ hcb)) hlen (hfw.keep (hcb.keeps fun k _ (hk : k < B0) => by omega))) ?_
      have fin : ∀ (jump : Option Code) (W3 : World), Chg Z Wb W3 →
          (Instr.endRound (w.heap.size + 1) jump).run Tryz.prog W3 = .ok (.bool jump.isNone) (W3.putObj (w.heap.size + 1) (.loop (rec (if jump.isNone then .ready else .done) jump))) ∧
          Chg (fun b => b = w.heap.size + 1) W3 (W3.putObj (w.heap.size + 1) (.loop (rec (if jump.isNone then .ready else .done) jump))) ∧
          Chg (fun b => Z b ∨ b = w.heap.size + 1) W (W3.putObj (w.heap.size + 1) (.loop (rec (if jump.isNone then .ready else .done) jump))) ∧
          Chg Z w (W3.putObj (w.heap.size + 1) (.loop (rec (if jump.isNone then .ready else .done) jump))) ∧
          (W3.putObj (w.heap.size + 1) (.loop (rec (if jump.isNone then .ready else .done) jump))).heap[w.heap.size + 1]? = some (.loop (rec (if jump.isNone then .ready else .done) jump)) ∧
          (W3.putObj (w.heap.size + 1) (.loop (rec (if jump.isNone then .ready else .done) jump))).heap[w.heap.size]? = some (.deferred (some [])) := fun jump W3 hc3 => by
        have hl3 := hc3.box hl2 (fun h => by have := hZ _ h; omega)
        have hk3 := hc3.box hk2 (fun h => by have := hZ _ h; omega)
        have hcp := Chg.putObj W3 (w.heap.size + 1) (.loop (rec (if jump.isNone then .ready else .done) jump))
        have hr := run_endRound (P := Tryz.prog) jump hl3
        rw [hrec] at hr hcp ⊢
        refine ⟨hr, hcp, ?_, ?_, World.putObj_heap_same (lt_of_block hl3), hcp.box hk3 (by omega)⟩
        · exact ((hcb.mono fun b _ hb => .inr hb).trans (hc3.mono fun b _ hb => .inl hb)).trans (hcp.mono fun b _ hb => .inr hb)
        · exact ((hc.trans' hcb fun b _ hb => by omega).trans hc3).trans' hcp fun b _ hb => by omega
      rintro e a3 W3 hp
      cases e with
      | normal =>
        obtain ⟨hc3, hi3⟩ := hp
        obtain ⟨hr, hcp, hcW, hcw, hl4, hk4⟩ := fin none W3 hc3
        exact ⟨_, _, hr, hcW, .inl ⟨rfl, hI _ _ _ hi3 (ownL _ _ hcp), hcw, hl4, hk4⟩⟩
      | ret =>
        obtain ⟨hc3, hi3⟩ := hp
        obtain ⟨hr, hcp, hcW, hcw, hl4, hk4⟩ := fin (some .ret) W3 hc3
        exact ⟨_, _, hr, hcW, .inr ⟨rfl, _, hIx _ _ _ hi3 (ownL _ _ hcp), hcw, hl4, hk4⟩⟩
      | exit id =>
        obtain ⟨hc3, hi3⟩ := hp
        obtain ⟨hr, hcp, hcW, hcw, hl4, hk4⟩ := fin (some (.exit id)) W3 hc3
        exact ⟨_, _, hr, hcW, .inr ⟨rfl, _, hIx _ _ _ hi3 (ownL _ _ hcp), hcw, hl4, hk4⟩⟩
      | goto t =>
        obtain ⟨hc3, hi3⟩ := hp
        obtain ⟨hr, hcp, hcW, hcw, hl4, hk4⟩ := fin (some (.goto t)) W3 hc3
        exact ⟨_, _, hr, hcW, .inr ⟨rfl, _, hIx _ _ _ hi3 (ownL _ _ hcp), hcw, hl4, hk4⟩⟩
      | panic ch => exact hp.elim
      | outgrown => exact hp.elim
    · exact (hb1.cell (p := ⟨pb, 0, none⟩) (World.block_lt_of_cell? w _ hp)).trans hp
    · rintro e W2 ⟨⟨v, rfl⟩, hc2, (⟨hi, hc, hl, hk⟩ | ⟨c, hi, hc, hl, hk⟩)⟩
      · refine ⟨none, _, by have := run_endLoop (P := Tryz.prog) hl (by rw [hrec]; simp); rw [hrec] at this; exact this, ?_⟩
        have hcp := Chg.putObj W2 (w.heap.size + 1) (.loop { rec .ready none with state := .exhausted })
        rw [hrec] at hcp
        exact hdone _ (hc.trans' hcp fun b _ hb => by omega) (hI _ _ _ hi (ownL _ _ hcp)) (hcp.box hk (by omega))
      · refine ⟨some c, _, by have := run_endLoop (P := Tryz.prog) hl (by rw [hrec]; simp); rw [hrec] at this; exact this, ?_⟩
        have hcp := Chg.putObj W2 (w.heap.size + 1) (.loop { rec .done (some c) with state := .exhausted })
        rw [hrec] at hcp
        exact wpIn_wide.2 (hstop c _ (hc.trans' hcp fun b _ hb => by omega) (hIx _ _ _ hi (ownL _ _ hcp)) (hcp.box hk (by omega)))
set_option maxHeartbeats 1000000 in
theorem nodesT_any (p : Option Addr) (w : World) :
    Calls Tryz.prog 37 #[.pointer p] w fun e w' => e = .returned (.func (.func 61) #[] #[.pointer (some ⟨w.heap.size, 0, none⟩)]) ∧ w' = w.alloc (.cells #[.pointer p] 64) := by
  have hmf : ∀ (fn : Fn) (first cap : Array Value) (w : World), (Instr.makeFunc fn first cap).run Tryz.prog w = .ok (.func fn first cap) w := fun _ _ _ _ => rfl
  go_enter Tryz.func37, Tryz.ntmps37
  go_wp2_with fail
  go_ret
  exact ⟨rfl, rfl⟩
end Go.Proofs.YtdakdpfofgkjoaaGreatDoor
set_option linter.unusedVariables false
set_option linter.unusedSimpArgs false
namespace Go.Proofs.YtdakdpfofgkjoaaGreatDoor
open Go.RowKit
attribute [local go_sem] cell_alloc_old

theorem findZ_none {l : List Sg} {s : ByteArray} (h : ∀ j, j < l.length → (l.getD j default).name ≠ s) : findZ l s = -1 := by
  unfold findZ
  rw [if_neg]
  have := findN_ge (l := l) (s := s) (Nat.le_refl _) h
  omega
theorem findN_is {l : List Sg} {s : ByteArray} {i : Nat} (hi : i < l.length) (h : (l.getD i default).name = s) (hm : ∀ j, j < i → (l.getD j default).name ≠ s) : findN l s = i := by
  have h1 := findN_le hi h
  have h2 := findN_ge (Nat.le_of_lt hi) hm
  omega
theorem findZ_is {l : List Sg} {s : ByteArray} {i : Nat} (hi : i < l.length) (h : (l.getD i default).name = s) (hm : ∀ j, j < i → (l.getD j default).name ≠ s) : findZ l s = (i : Int) := by
  unfold findZ
  rw [findN_is hi h hm, if_pos hi]
theorem beqI_t {a b : Int} (h : a = b) : (a == b) = true := by rw [h]; exact beq_self_eq_true b
theorem beqI_f {a b : Int} (h : a ≠ b) : (a == b) = false := by
  cases h' : a == b
  · rfl
  · exact absurd (by simpa using h') h
theorem bytes_ne {a b : ByteArray} (h : a ≠ b) : (a.toList == b.toList) = false := by
  cases hb : (a.toList == b.toList)
  · rfl
  · exact absurd (bytes_ext.1 hb) h
set_option maxRecDepth 100000 in
set_option maxHeartbeats 2000000 in
theorem sfind_any {D : Dom} (l : List Sg) (s : ByteArray) (A : Option Addr) (c n : Nat) (w : World) (hn : n = l.length) (h : RdG w D A c l) :
    Calls Tryz.prog 18 #[.slice A n c, .string s] w fun e w' => e = .returned (.int .i64 (findZ l s)) ∧ Below w.heap.size w w' := by
  subst hn
  have hlen := h.len.1
  have HH := hid h
  clear h
  go_enter Tryz.func18, Tryz.ntmps18
  go_wp2_with fail
  go_loopw [8] (fun q wr => ∃ i : Nat, i ≤ l.length ∧ q = .int .i64 (i : Int) ∧ SameW w wr ∧ Hid (∀ j, j < i → (l.getD j default).name ≠ s)) (fun q _ => l.length - (intOf q).toNat)
  case atStart => exact ⟨0, Nat.zero_le _, rfl, rfl, fun j h => absurd h (Nat.not_lt_zero _)⟩
  case round =>
    obtain ⟨i, hi, rfl, hw, HALL⟩ := hrel
    obtain rfl : w = wr := hw.symm
    by_cases hlt : i < l.length
    · have hii : (i : Int) < l.length := by omega
      obtain ⟨b, o, t, rfl, hlb, HX, x0, x1, x2⟩ := HH.out.get hlt
      have HNAME := hid (show (l.getD i default).name = t.name by rw [HX.out])
      clear HX
      by_cases ht : t.name = s
      · have d1 : (t.name.toList == s.toList) = true := bytes_ext.2 ht
        have HR := hid (findZ_is (s := s) hlt (by rw [HNAME.out]; exact ht) HALL.out)
        clear ht
        go_wp2_with fail
        go_ret
        exact ⟨ret_int HR.out.symm, Below.refl _ _⟩
      · have d1 : (t.name.toList == s.toList) = false := bytes_ne ht
        have HNE := hid ht
        clear ht
        go_wp2_with fail
        go_roundw
        case rel =>
          refine ⟨i + 1, by omega, by go_num, rfl, fun j hj => ?_⟩
          by_cases e : j = i
          · rw [e, HNAME.out]; exact HNE.out
          · exact HALL.out j (by omega)
        case measure => simp [intOf]; omega
    · have hii : ¬ (i : Int) < l.length := by omega
      have HR := hid (findZ_none (s := s) fun j hj => HALL.out j (by omega))
      go_wp2_with fail
      go_ret
      exact ⟨ret_int HR.out.symm, Below.refl _ _⟩
theorem nodeErr_is3 {l : List Sg} {f : Fm} (h : f.op = 3) : nodeErr l f = if findN l f.name < l.length then (if (l.getD (findN l f.name) default).size ≤ f.val then 71 else 0) else 70 := by
  unfold nodeErr
  rw [if_pos h]
theorem nodeErr_isP {l : List Sg} {f : Fm} (h : 15 ≤ f.op ∧ f.op ≤ 19) : nodeErr l f = if f.args.all (allB pastQ) then 0 else 72 := by
  unfold nodeErr pastOp
  rw [if_neg (by omega), decide_eq_true h.1, decide_eq_true h.2]; rfl
theorem nodeErr_no {l : List Sg} {f : Fm} (h3 : f.op ≠ 3) (h : ¬ (15 ≤ f.op ∧ f.op ≤ 19)) : nodeErr l f = 0 := by
  unfold nodeErr pastOp
  rw [if_neg h3, if_neg]
  rw [Bool.and_eq_true, decide_eq_true_eq, decide_eq_true_eq]; exact h
theorem all_getD {l : List Fm} {q : Fm → Bool} (h : ∀ j, j < l.length → q (l.getD j default) = true) : l.all q = true := by
  rw [List.all_eq_true]
  intro x hx
  obtain ⟨i, hi, rfl⟩ := List.getElem_of_mem hx
  have := h i hi
  simpa [List.getD, hi] using this
theorem all_not {l : List Fm} {q : Fm → Bool} {i : Nat} (hi : i < l.length) (h : q (l.getD i default) = false) : l.all q = false := by
  rw [List.all_eq_false]
  exact ⟨l.getD i default, by simp [List.getD, hi], by rw [h]; simp⟩
set_option maxRecDepth 100000 in
set_option maxHeartbeats 8000000 in
theorem nodeerr_any {D E : Dom} (l : List Sg) (A : Option Addr) (c n : Nat) (f : Fm) (b o : Nat) (A' : Option Addr) (c' : Nat) (w : World) (hn : n = l.length) (h : RdG w D A c l) (hf : HasF w E b o f A' c') (hg : GF w) (hd : f.depth ≤ 5000) :
    Calls Tryz.prog 38 #[.slice A n c, .pointer (some ⟨b, o, none⟩)] w fun e w' => e = .returned (.int .i64 (nodeErr l f)) ∧ Below w.heap.size w w' := by
  subst hn
  have hlen := h.len.1
  have HL := hid h.old
  have HF := hid hf.old
  have HG := hid hg
  have HD := hid hd
  obtain ⟨_, hlb, f0, f1, f2, f3, f4, _⟩ := hf
  clear h hg hd
  by_cases h3 : f.op = 3
  · have d3 := beqI_t h3
    have HR := hid (nodeErr_is3 (l := l) h3)
    clear h3
    by_cases hfn : findN l f.name < l.length
    · have hz : findZ l f.name = ((findN l f.name : Nat) : Int) := by unfold findZ; rw [if_pos hfn]
      have hcall := fun W (hb : Below w.heap.size w W) => sfind_any l f.name A c l.length W rfl (HL.out.any hb)
      rw [hz] at hcall
      have HC := hid hcall
      obtain ⟨k, hk⟩ : ∃ k, findN l f.name = k := ⟨_, rfl⟩
      rw [hk] at HC HR hfn
      clear hcall hz hk
      have hkl : (k : Int) < l.length := by omega
      have hk0 : ¬ (k : Int) < 0 := by omega
      rw [if_pos hfn] at HR
      obtain ⟨bg, og, s, rfl, hlg, HX, g0, g1, g2⟩ := HL.out.get hfn
      have HSZ := hid (show (l.getD k default).size = s.size by rw [HX.out])
      rw [HSZ.out] at HR
      clear HX
      by_cases hs : s.size ≤ f.val
      · rw [if_pos hs] at HR
        have ds : decide (s.size ≤ f.val) = true := decide_eq_true hs
        go_enter Tryz.func38, Tryz.ntmps38
        go_upto_region 6 with (go_at_call 18; (with_reducible refine (HC.out _ (by first | exact Below.refl _ _ | go_grown)).mono ?_); rintro e W2 ⟨rfl, hb2⟩; have k0 := (hb2.cell (p := ⟨bg, og + k * 3 + 2, none⟩) hlg).trans g2; have k2 := (hb2.cell (p := ⟨b, o + 2, none⟩) hlb).trans f2; have hl2 := Nat.lt_of_lt_of_le hlg hb2.size; have hl3 := Nat.lt_of_lt_of_le hlb hb2.size; have HB2 := hid hb2; clear hb2 g0 g1 g2 f0 f1 f2 f3 f4 hlg hlb)
        go_quiet (fail)
        go_wp2_with fail
        go_ret
        exact ⟨ret_int HR.out.symm, below_drewN HB2.out _⟩
      · rw [if_neg hs] at HR
        have ds : decide (s.size ≤ f.val) = false := decide_eq_false hs
        go_enter Tryz.func38, Tryz.ntmps38
        go_upto_region 6 with (go_at_call 18; (with_reducible refine (HC.out _ (by first | exact Below.refl _ _ | go_grown)).mono ?_); rintro e W2 ⟨rfl, hb2⟩; have k0 := (hb2.cell (p := ⟨bg, og + k * 3 + 2, none⟩) hlg).trans g2; have k2 := (hb2.cell (p := ⟨b, o + 2, none⟩) hlb).trans f2; have hl2 := Nat.lt_of_lt_of_le hlg hb2.size; have hl3 := Nat.lt_of_lt_of_le hlb hb2.size; have HB2 := hid hb2; clear hb2 g0 g1 g2 f0 f1 f2 f3 f4 hlg hlb)
        go_quiet (fail)
        go_wp2_with fail
        go_ret
        exact ⟨ret_int HR.out.symm, below_drewN HB2.out _⟩
    · rw [if_neg hfn] at HR
      have hz : findZ l f.name = -1 := by unfold findZ; rw [if_neg hfn]
      have hcall := fun W (hb : Below w.heap.size w W) => sfind_any l f.name A c l.length W rfl (HL.out.any hb)
      rw [hz] at hcall
      have HC := hid hcall
      clear hcall hz hfn
      go_enter Tryz.func38, Tryz.ntmps38
      go_wp2_with (go_at_call 18; (with_reducible refine (HC.out _ (by first | exact Below.refl _ _ | go_grown)).mono ?_); rintro e W2 ⟨rfl, hb2⟩; have HB2 := hid hb2; clear hb2)
      go_ret
      exact ⟨ret_int HR.out.symm, HB2.out⟩
  have d3 := beqI_f h3
  by_cases hp : 15 ≤ f.op ∧ f.op ≤ 19
  · have HR := hid (nodeErr_isP (l := l) hp)
    have hcs : f.op = 15 ∨ f.op = 16 ∨ f.op = 17 ∨ f.op = 18 ∨ f.op = 19 := by omega
    clear h3 hp
    rcases hcs with hop | hcs
    · have e15 := beqI_t (a := f.op) (b := 15) (by omega)
      clear hop
      go_enter Tryz.func38, Tryz.ntmps38
      go_wp2_with fail
      go_loopw [42] (fun q wr => ∃ i : Nat, i ≤ f.args.length ∧ q = .int .i64 (i : Int) ∧ Hid (Below w.heap.size w wr) ∧ Hid (∀ j, j < i → allB pastQ (f.args.getD j default) = true)) (fun q _ => f.args.length - (intOf q).toNat)
      case atStart => exact ⟨0, Nat.zero_le _, rfl, by first | exact Below.refl _ _ | go_grown, fun j h => absurd h (Nat.not_lt_zero _)⟩
      case round =>
        obtain ⟨i, hi, rfl, HB, HALL⟩ := hrel
        have y4 := (HB.out.cell (p := ⟨b, o + 4, none⟩) hlb).trans f4
        have HAR := hid (HF.out.args.any HB.out)
        have hly := Nat.lt_of_lt_of_le hlb HB.out.size
        have hal := HAR.out.len.1
        by_cases hlt : i < f.args.length
        · have hii : (i : Int) < f.args.length := by omega
          obtain ⟨b1, o1, A1, c1, g, rfl, HX, hg1⟩ := HAR.out.get hlt
          have HPA := hid (past_any g _ wr ⟨A1, c1, rfl, hg1.args⟩ (HG.out.below HB.out HG.out.pos) (by
            have h1 := arg_depth hlt
            rw [HX.out] at h1
            have := HD.out
            omega))
          obtain ⟨_, hl1, a0, a1, a2, a3, a4, _⟩ := hg1
          have HXX := hid HX.out
          clear HX
          cases hq : allB pastQ g
          · have HRR := hid (show nodeErr l f = 72 by rw [HR.out, all_not hlt (by rw [HXX.out]; exact hq)]; rfl)
            rw [hq] at HPA
            clear hq
            go_wp2_with (go_at_call 63; (with_reducible refine HPA.out.mono ?_); rintro e W2 ⟨rfl, hb2⟩; have HB2 := hid (HB.out.trans (hb2.mono HB.out.size)); clear hb2)
            go_ret
            exact ⟨ret_int HRR.out.symm, HB2.out⟩
          · have HQ := hid hq
            rw [hq] at HPA
            clear hq
            go_wp2_with (go_at_call 63; (with_reducible refine HPA.out.mono ?_); rintro e W2 ⟨rfl, hb2⟩; have HB2 := hid (HB.out.trans (hb2.mono HB.out.size)); clear hb2)
            go_roundw
            case rel =>
              refine ⟨i + 1, by omega, by go_num, HB2.out, fun j hj => ?_⟩
              by_cases e : j = i
              · rw [e, HXX.out]; exact HQ.out
              · exact HALL.out j (by omega)
            case measure => simp [intOf]; omega
        · have hii : ¬ (i : Int) < f.args.length := by omega
          have HRR := hid (show nodeErr l f = 0 by rw [HR.out, all_getD fun j hj => HALL.out j (by omega)]; rfl)
          go_wp2_with fail
          go_ret
          exact ⟨ret_int HRR.out.symm, HB.out⟩
    rcases hcs with hop | hcs
    · have e15 := beqI_f (a := f.op) (b := 15) (by omega)
      have e16 := beqI_t (a := f.op) (b := 16) (by omega)
      clear hop
      go_enter Tryz.func38, Tryz.ntmps38
      go_wp2_with fail
      go_loopw [42] (fun q wr => ∃ i : Nat, i ≤ f.args.length ∧ q = .int .i64 (i : Int) ∧ Hid (Below w.heap.size w wr) ∧ Hid (∀ j, j < i → allB pastQ (f.args.getD j default) = true)) (fun q _ => f.args.length - (intOf q).toNat)
      case atStart => exact ⟨0, Nat.zero_le _, rfl, by first | exact Below.refl _ _ | go_grown, fun j h => absurd h (Nat.not_lt_zero _)⟩
      case round =>
        obtain ⟨i, hi, rfl, HB, HALL⟩ := hrel
        have y4 := (HB.out.cell (p := ⟨b, o + 4, none⟩) hlb).trans f4
        have HAR := hid (HF.out.args.any HB.out)
        have hly := Nat.lt_of_lt_of_le hlb HB.out.size
        have hal := HAR.out.len.1
        by_cases hlt : i < f.args.length
        · have hii : (i : Int) < f.args.length := by omega
          obtain ⟨b1, o1, A1, c1, g, rfl, HX, hg1⟩ := HAR.out.get hlt
          have HPA := hid (past_any g _ wr ⟨A1, c1, rfl, hg1.args⟩ (HG.out.below HB.out HG.out.pos) (by
            have h1 := arg_depth hlt
            rw [HX.out] at h1
            have := HD.out
            omega))
          obtain ⟨_, hl1, a0, a1, a2, a3, a4, _⟩ := hg1
          have HXX := hid HX.out
          clear HX
          cases hq : allB pastQ g
          · have HRR := hid (show nodeErr l f = 72 by rw [HR.out, all_not hlt (by rw [HXX.out]; exact hq)]; rfl)
            rw [hq] at HPA
            clear hq
            go_wp2_with (go_at_call 63; (with_reducible refine HPA.out.mono ?_); rintro e W2 ⟨rfl, hb2⟩; have HB2 := hid (HB.out.trans (hb2.mono HB.out.size)); clear hb2)
            go_ret
            exact ⟨ret_int HRR.out.symm, HB2.out⟩
          · have HQ := hid hq
            rw [hq] at HPA
            clear hq
            go_wp2_with (go_at_call 63; (with_reducible refine HPA.out.mono ?_); rintro e W2 ⟨rfl, hb2⟩; have HB2 := hid (HB.out.trans (hb2.mono HB.out.size)); clear hb2)
            go_roundw
            case rel =>
              refine ⟨i + 1, by omega, by go_num, HB2.out, fun j hj => ?_⟩
              by_cases e : j = i
              · rw [e, HXX.out]; exact HQ.out
              · exact HALL.out j (by omega)
            case measure => simp [intOf]; omega
        · have hii : ¬ (i : Int) < f.args.length := by omega
          have HRR := hid (show nodeErr l f = 0 by rw [HR.out, all_getD fun j hj => HALL.out j (by omega)]; rfl)
          go_wp2_with fail
          go_ret
          exact ⟨ret_int HRR.out.symm, HB.out⟩
    rcases hcs with hop | hcs
    · have e15 := beqI_f (a := f.op) (b := 15) (by omega)
      have e16 := beqI_f (a := f.op) (b := 16) (by omega)
      have e17 := beqI_t (a := f.op) (b := 17) (by omega)
      clear hop
      go_enter Tryz.func38, Tryz.ntmps38
      go_wp2_with fail
      go_loopw [42] (fun q wr => ∃ i : Nat, i ≤ f.args.length ∧ q = .int .i64 (i : Int) ∧ Hid (Below w.heap.size w wr) ∧ Hid (∀ j, j < i → allB pastQ (f.args.getD j default) = true)) (fun q _ => f.args.length - (intOf q).toNat)
      case atStart => exact ⟨0, Nat.zero_le _, rfl, by first | exact Below.refl _ _ | go_grown, fun j h => absurd h (Nat.not_lt_zero _)⟩
      case round =>
        obtain ⟨i, hi, rfl, HB, HALL⟩ := hrel
        have y4 := (HB.out.cell (p := ⟨b, o + 4, none⟩) hlb).trans f4
        have HAR := hid (HF.out.args.any HB.out)
        have hly := Nat.lt_of_lt_of_le hlb HB.out.size
        have hal := HAR.out.len.1
        by_cases hlt : i < f.args.length
        · have hii : (i : Int) < f.args.length := by omega
          obtain ⟨b1, o1, A1, c1, g, rfl, HX, hg1⟩ := HAR.out.get hlt
          have HPA := hid (past_any g _ wr ⟨A1, c1, rfl, hg1.args⟩ (HG.out.below HB.out HG.out.pos) (by
            have h1 := arg_depth hlt
            rw [HX.out] at h1
            have := HD.out
            omega))
          obtain ⟨_, hl1, a0, a1, a2, a3, a4, _⟩ := hg1
          have HXX := hid HX.out
          clear HX
          cases hq : allB pastQ g
          · have HRR := hid (show nodeErr l f = 72 by rw [HR.out, all_not hlt (by rw [HXX.out]; exact hq)]; rfl)
            rw [hq] at HPA
            clear hq
            go_wp2_with (go_at_call 63; (with_reducible refine HPA.out.mono ?_); rintro e W2 ⟨rfl, hb2⟩; have HB2 := hid (HB.out.trans (hb2.mono HB.out.size)); clear hb2)
            go_ret
            exact ⟨ret_int HRR.out.symm, HB2.out⟩
          · have HQ := hid hq
            rw [hq] at HPA
            clear hq
            go_wp2_with (go_at_call 63; (with_reducible refine HPA.out.mono ?_); rintro e W2 ⟨rfl, hb2⟩; have HB2 := hid (HB.out.trans (hb2.mono HB.out.size)); clear hb2)
            go_roundw
            case rel =>
              refine ⟨i + 1, by omega, by go_num, HB2.out, fun j hj => ?_⟩
              by_cases e : j = i
              · rw [e, HXX.out]; exact HQ.out
              · exact HALL.out j (by omega)
            case measure => simp [intOf]; omega
        · have hii : ¬ (i : Int) < f.args.length := by omega
          have HRR := hid (show nodeErr l f = 0 by rw [HR.out, all_getD fun j hj => HALL.out j (by omega)]; rfl)
          go_wp2_with fail
          go_ret
          exact ⟨ret_int HRR.out.symm, HB.out⟩
    rcases hcs with hop | hop
    · have e15 := beqI_f (a := f.op) (b := 15) (by omega)
      have e16 := beqI_f (a := f.op) (b := 16) (by omega)
      have e17 := beqI_f (a := f.op) (b := 17) (by omega)
      have e18 := beqI_t (a := f.op) (b := 18) (by omega)
      clear hop
      go_enter Tryz.func38, Tryz.ntmps38
      go_wp2_with fail
      go_loopw [42] (fun q wr => ∃ i : Nat, i ≤ f.args.length ∧ q = .int .i64 (i : Int) ∧ Hid (Below w.heap.size w wr) ∧ Hid (∀ j, j < i → allB pastQ (f.args.getD j default) = true)) (fun q _ => f.args.length - (intOf q).toNat)
      case atStart => exact ⟨0, Nat.zero_le _, rfl, by first | exact Below.refl _ _ | go_grown, fun j h => absurd h (Nat.not_lt_zero _)⟩
      case round =>
        obtain ⟨i, hi, rfl, HB, HALL⟩ := hrel
        have y4 := (HB.out.cell (p := ⟨b, o + 4, none⟩) hlb).trans f4
        have HAR := hid (HF.out.args.any HB.out)
        have hly := Nat.lt_of_lt_of_le hlb HB.out.size
        have hal := HAR.out.len.1
        by_cases hlt : i < f.args.length
        · have hii : (i : Int) < f.args.length := by omega
          obtain ⟨b1, o1, A1, c1, g, rfl, HX, hg1⟩ := HAR.out.get hlt
          have HPA := hid (past_any g _ wr ⟨A1, c1, rfl, hg1.args⟩ (HG.out.below HB.out HG.out.pos) (by
            have h1 := arg_depth hlt
            rw [HX.out] at h1
            have := HD.out
            omega))
          obtain ⟨_, hl1, a0, a1, a2, a3, a4, _⟩ := hg1
          have HXX := hid HX.out
          clear HX
          cases hq : allB pastQ g
          · have HRR := hid (show nodeErr l f = 72 by rw [HR.out, all_not hlt (by rw [HXX.out]; exact hq)]; rfl)
            rw [hq] at HPA
            clear hq
            go_wp2_with (go_at_call 63; (with_reducible refine HPA.out.mono ?_); rintro e W2 ⟨rfl, hb2⟩; have HB2 := hid (HB.out.trans (hb2.mono HB.out.size)); clear hb2)
            go_ret
            exact ⟨ret_int HRR.out.symm, HB2.out⟩
          · have HQ := hid hq
            rw [hq] at HPA
            clear hq
            go_wp2_with (go_at_call 63; (with_reducible refine HPA.out.mono ?_); rintro e W2 ⟨rfl, hb2⟩; have HB2 := hid (HB.out.trans (hb2.mono HB.out.size)); clear hb2)
            go_roundw
            case rel =>
              refine ⟨i + 1, by omega, by go_num, HB2.out, fun j hj => ?_⟩
              by_cases e : j = i
              · rw [e, HXX.out]; exact HQ.out
              · exact HALL.out j (by omega)
            case measure => simp [intOf]; omega
        · have hii : ¬ (i : Int) < f.args.length := by omega
          have HRR := hid (show nodeErr l f = 0 by rw [HR.out, all_getD fun j hj => HALL.out j (by omega)]; rfl)
          go_wp2_with fail
          go_ret
          exact ⟨ret_int HRR.out.symm, HB.out⟩
    · have e15 := beqI_f (a := f.op) (b := 15) (by omega)
      have e16 := beqI_f (a := f.op) (b := 16) (by omega)
      have e17 := beqI_f (a := f.op) (b := 17) (by omega)
      have e18 := beqI_f (a := f.op) (b := 18) (by omega)
      have e19 := beqI_t (a := f.op) (b := 19) (by omega)
      clear hop
      go_enter Tryz.func38, Tryz.ntmps38
      go_wp2_with fail
      go_loopw [42] (fun q wr => ∃ i : Nat, i ≤ f.args.length ∧ q = .int .i64 (i : Int) ∧ Hid (Below w.heap.size w wr) ∧ Hid (∀ j, j < i → allB pastQ (f.args.getD j default) = true)) (fun q _ => f.args.length - (intOf q).toNat)
      case atStart => exact ⟨0, Nat.zero_le _, rfl, by first | exact Below.refl _ _ | go_grown, fun j h => absurd h (Nat.not_lt_zero _)⟩
      case round =>
        obtain ⟨i, hi, rfl, HB, HALL⟩ := hrel
        have y4 := (HB.out.cell (p := ⟨b, o + 4, none⟩) hlb).trans f4
        have HAR := hid (HF.out.args.any HB.out)
        have hly := Nat.lt_of_lt_of_le hlb HB.out.size
        have hal := HAR.out.len.1
        by_cases hlt : i < f.args.length
        · have hii : (i : Int) < f.args.length := by omega
          obtain ⟨b1, o1, A1, c1, g, rfl, HX, hg1⟩ := HAR.out.get hlt
          have HPA := hid (past_any g _ wr ⟨A1, c1, rfl, hg1.args⟩ (HG.out.below HB.out HG.out.pos) (by
            have h1 := arg_depth hlt
            rw [HX.out] at h1
            have := HD.out
            omega))
          obtain ⟨_, hl1, a0, a1, a2, a3, a4, _⟩ := hg1
          have HXX := hid HX.out
          clear HX
          cases hq : allB pastQ g
          · have HRR := hid (show nodeErr l f = 72 by rw [HR.out, all_not hlt (by rw [HXX.out]; exact hq)]; rfl)
            rw [hq] at HPA
            clear hq
            go_wp2_with (go_at_call 63; (with_reducible refine HPA.out.mono ?_); rintro e W2 ⟨rfl, hb2⟩; have HB2 := hid (HB.out.trans (hb2.mono HB.out.size)); clear hb2)
            go_ret
            exact ⟨ret_int HRR.out.symm, HB2.out⟩
          · have HQ := hid hq
            rw [hq] at HPA
            clear hq
            go_wp2_with (go_at_call 63; (with_reducible refine HPA.out.mono ?_); rintro e W2 ⟨rfl, hb2⟩; have HB2 := hid (HB.out.trans (hb2.mono HB.out.size)); clear hb2)
            go_roundw
            case rel =>
              refine ⟨i + 1, by omega, by go_num, HB2.out, fun j hj => ?_⟩
              by_cases e : j = i
              · rw [e, HXX.out]; exact HQ.out
              · exact HALL.out j (by omega)
            case measure => simp [intOf]; omega
        · have hii : ¬ (i : Int) < f.args.length := by omega
          have HRR := hid (show nodeErr l f = 0 by rw [HR.out, all_getD fun j hj => HALL.out j (by omega)]; rfl)
          go_wp2_with fail
          go_ret
          exact ⟨ret_int HRR.out.symm, HB.out⟩
  · have HR := hid (nodeErr_no (l := l) h3 hp)
    have e15 := beqI_f (a := f.op) (b := 15) (by omega)
    have e16 := beqI_f (a := f.op) (b := 16) (by omega)
    have e17 := beqI_f (a := f.op) (b := 17) (by omega)
    have e18 := beqI_f (a := f.op) (b := 18) (by omega)
    have e19 := beqI_f (a := f.op) (b := 19) (by omega)
    clear h3 hp
    go_enter Tryz.func38, Tryz.ntmps38
    go_wp2_with fail
    go_ret
    exact ⟨ret_int HR.out.symm, by first | exact Below.refl _ _ | go_grown⟩
end Go.Proofs.YtdakdpfofgkjoaaGreatDoor
