/-
  The map of the states that lead to the targets, in memory: rows of the call's own, all apart.
  Walk of refine.
  The partition while it is laid: the rows of its blocks and those of what leads to each state grow, each a row of its own.
-/
import Derived.Test.YtcmhginhfhiolaaZ22
import Derived.Test.YtcmhginhfhiolaaZ18
set_option linter.unusedVariables false
set_option linter.unusedSimpArgs false
namespace Go.Proofs.Ytcmhginhfhiolaa
open Go.RowKit
attribute [local go_sem] cell_alloc_old

def hv (lv : List (Nat × Value)) (i : Nat) : Value := (lookB lv i).getD (.slice none 0 0)
theorem hv_upd (lv : List (Nat × Value)) (b : Nat) (v : Value) (i : Nat) : hv (updB lv b v) i = if i = b then v else hv lv i := by
  unfold hv
  rw [lookB_upd]
  split <;> rfl
structure HtI (B0 : Nat) (w : World) (hb : Nat) (lv : List (Nat × Value)) (bk P : List Nat) (vt : Value) (tl : List Nat) : Prop where
  map : MapIs encI w hb lv
  nd : (lv.map (·.1)).Nodup
  row : ∀ i, w.ownsRow B0 3 1 (hv lv i) (hitL bk P i).length ((natZ (hitL bk P i)).map (.int .i64))
  nn : ∀ i, hitL bk P i = [] → hv lv i = .slice none 0 0
  dis : ∀ i j, i ≠ j → ∀ k, some k = (hv lv i).ownBlock → some k ≠ (hv lv j).ownBlock
  tow : w.ownsRow B0 3 1 vt tl.length ((natZ tl).map (.int .i64))
  td : ∀ i k, some k = (hv lv i).ownBlock → some k ≠ vt.ownBlock
  hbB : B0 ≤ hb
section
variable {B0 hb b q n : Nat} {w w' w5 w6 : World} {lv : List (Nat × Value)} {bk P tl : List Nat} {vt v5 : Value}
theorem own_map {base n size : Nat} {e : TypeId} {v : Value} {xs : List Value} (h : w.ownsRow base e size v n xs) (hm : MapIs encI w hb lv) : v.ownBlock ≠ some hb := by
  rcases h.2 with ⟨rfl, _⟩ | ⟨g, cap, cur, rfl, _, hh, _⟩
  · exact fun e => by cases e
  · intro e
    have e : g = hb := by simpa [Value.ownBlock] using e
    subst e
    exact map_ne_cells hm hh rfl
theorem HtI.keep (h : HtI B0 w hb lv bk P vt tl) (hk : Keeps (fun k => B0 ≤ k) w w') : HtI B0 w' hb lv bk P vt tl :=
  ⟨h.map.of_block (hk.block _ h.hbB h.map.lt), h.nd, fun i => own_agree (h.row i) fun k e => hk.block k ((h.row i).lt k e.symm).1 ((h.row i).lt k e.symm).2, h.nn, h.dis, own_agree h.tow fun k e => hk.block k (h.tow.lt k e.symm).1 (h.tow.lt k e.symm).2, h.td, h.hbB⟩
theorem HtI.later (h : HtI B0 w hb lv bk P vt tl) (hb' : Below w.heap.size w w') : HtI B0 w' hb lv bk P vt tl := h.keep ⟨hb'.size, fun k _ hl => hb'.block k hl⟩
theorem HtI.start (w : World) (bk : List Nat) (hb : B0 ≤ w.heap.size) : HtI B0 (w.alloc (.map #[] 0)) w.heap.size [] bk [] (.slice none 0 0) [] :=
  ⟨MapIs.new w, List.nodup_nil, fun i => ⟨rfl, .inl ⟨rfl, rfl⟩⟩, fun _ _ => rfl, (fun _ _ _ _ h => by cases h), ⟨rfl, .inl ⟨rfl, rfl⟩⟩, (fun _ _ h => by cases h), hb⟩
/-- A block is added to the touched ones. -/
theorem HtI.touch (h : HtI B0 w hb lv bk P vt tl) (hg : w.grownBy w5 vt.ownBlock) (ho : w5.ownsRow B0 3 1 v5 (tl.length + 1) ((natZ tl).map (.int .i64) ++ [.int .i64 (b : Int)])) (hat : v5.ownBlock = vt.ownBlock ∨ v5.ownBlock = some w.heap.size) : HtI B0 w5 hb lv bk P v5 (tl ++ [b]) := by
  refine ⟨h.map.of_block (hg.block _ h.map.lt fun e => own_map h.tow h.map e.symm), h.nd, fun i => own_agree (h.row i) fun k e => hg.block k ((h.row i).lt k e.symm).2 (h.td i k e), h.nn, h.dis, ?_, fun i k e => ?_, h.hbB⟩
  · rw [natZ_snoc, List.map_append, List.length_append]; exact ho
  · rcases hat with e5 | e5
    · rw [e5]; exact h.td i k e
    · rw [e5]
      intro e6
      injection e6 with e6
      have := ((h.row i).lt k e.symm).2
      omega
/-- A state is added to the row of its block. -/
theorem HtI.hit (h : HtI B0 w hb lv bk P vt tl) (hq : bF bk q = b) (hg : w.grownBy w5 (hv lv b).ownBlock) (ho : w5.ownsRow B0 3 1 v5 ((hitL bk P b).length + 1) ((natZ (hitL bk P b)).map (.int .i64) ++ [.int .i64 (q : Int)])) (hat : v5.ownBlock = (hv lv b).ownBlock ∨ v5.ownBlock = some w.heap.size)
    (hg6 : w5.grownBy w6 (some hb)) (hm6 : MapIs encI w6 hb (updB lv b v5)) : HtI B0 w6 hb (updB lv b v5) bk (P ++ [q]) vt tl := by
  have hm5 : MapIs encI w5 hb lv := h.map.of_block (hg.block _ h.map.lt fun e => own_map (h.row b) h.map e.symm)
  have hnb : ∀ i k, some k = (hv lv i).ownBlock → k ≠ hb := fun i k e e2 => own_map (h.row i) h.map (by rw [← e, e2])
  have h5 : ∀ i j, i ≠ j → i = b → ∀ k, some k = v5.ownBlock → some k ≠ (hv lv j).ownBlock := fun i j hij hib k e => by
    rcases hat with e5 | e5
    · rw [e5] at e
      exact h.dis b j (fun e2 => hij (hib.trans e2)) k e
    · intro e2
      rw [e5] at e
      injection e with e
      have := ((h.row j).lt k e2.symm).2
      omega
  refine ⟨hm6, updB_nodup h.nd _ _, fun i => ?_, fun i hi => ?_, fun i j hij k e => ?_, own_agree h.tow fun k e => ?_, fun i k e => ?_, h.hbB⟩
  · rw [hv_upd, hitL_snoc, hq]
    by_cases e : i = b
    · subst e
      rw [if_pos rfl, if_pos rfl, natZ_snoc, List.map_append, List.length_append]
      exact own_agree ho fun k e => hg6.block k ((ho.lt k e.symm).2) fun e2 => by
        injection e2 with e2
        subst e2
        exact own_map ho hm5 e.symm
    · rw [if_neg e, if_neg (fun e2 => e e2.symm)]
      exact own_agree (h.row i) fun k e1 => (hg6.block k (Nat.lt_of_lt_of_le ((h.row i).lt k e1.symm).2 hg.size) (fun e2 => by
        injection e2 with e2
        exact hnb i k e1 e2)).trans (hg.block k ((h.row i).lt k e1.symm).2 (h.dis i b e k e1))
  · rw [hitL_snoc, hq] at hi
    rw [hv_upd]
    by_cases e : i = b
    · subst e
      rw [if_pos rfl] at hi
      simp at hi
    · rw [if_neg (fun e2 => e e2.symm)] at hi
      rw [if_neg e]
      exact h.nn i hi
  · rw [hv_upd] at e ⊢
    by_cases h1 : i = b
    · rw [if_pos h1] at e
      rw [if_neg (fun h2 => hij (h1.trans h2.symm))]
      exact h5 i j hij h1 k e
    · rw [if_neg h1] at e
      by_cases h2 : j = b
      · rw [if_pos h2]
        exact fun e2 => h5 j i (fun e3 => hij e3.symm) h2 k e2 e
      · rw [if_neg h2]
        exact h.dis i j hij k e
  · have hl := (h.tow.lt k e.symm).2
    refine (hg6.block k (Nat.lt_of_lt_of_le hl hg.size) (fun e2 => ?_)).trans (hg.block k hl (fun e2 => h.td b k e2 e))
    injection e2 with e2
    exact own_map h.tow h.map (by rw [← e, e2])
  · rw [hv_upd] at e
    split at e
    · rcases hat with e5 | e5
      · rw [e5] at e
        exact h.td b k e
      · rw [e5] at e
        injection e with e
        intro e2
        have := (h.tow.lt k e2.symm).2
        omega
    · exact h.td i k e
theorem HtI.look (h : HtI B0 w hb lv bk P vt tl) (k : Nat) : (Instr.lookup 105 (.map (some hb)) (.int .i64 (k : Int)) false).run Try.prog w = .ok (hv lv k) w := by
  have := run_lookup_b int_key (T := 105) (E := 34) (P := Try.prog) (z := .slice none 0 0) (by kernel_rfl) (by kernel_rfl) h.map k false
  exact this
/-- The row of a block: nil, or a row of its own with a state. -/
theorem HtI.shape (h : HtI B0 w hb lv bk P vt tl) (b : Nat) : (hitL bk P b = [] ∧ hv lv b = .slice none 0 0) ∨ ∃ g c, 0 < (hitL bk P b).length ∧ hv lv b = .slice (some ⟨g, 0, none⟩) (hitL bk P b).length c := by
  by_cases e : hitL bk P b = []
  · exact .inl ⟨e, h.nn b e⟩
  · have hp : 0 < (hitL bk P b).length := List.length_pos_iff.2 e
    right
    rcases (h.row b).2 with ⟨_, h0⟩ | ⟨g, cap, cur, hv', _⟩
    · omega
    · exact ⟨g, cap, hp, hv'⟩
end
end Go.Proofs.Ytcmhginhfhiolaa
set_option linter.unusedVariables false
set_option linter.unusedSimpArgs false
namespace Go.Proofs.Ytcmhginhfhiolaa
open Go.RowKit
attribute [local go_sem] cell_alloc_old

theorem TouchOk.lt {bk P tl : List Nat} {n nb : Nat} (h : TouchOk bk P tl) (hP : ∀ q ∈ P, q < n) (hb : ∀ q, q < n → bF bk q < nb) : ∀ b ∈ tl, b < nb := fun b hbt => by
  have h1 := (h.me b).1 hbt
  obtain ⟨q, hq⟩ : ∃ q, q ∈ hitL bk P b := by
    rcases hh : hitL bk P b with _ | ⟨q, l⟩
    · exact absurd hh h1
    · exact ⟨q, List.mem_cons_self⟩
  have h2 := hitL_mem.1 hq
  have := hb q (hP q h2.1)
  omega
theorem TouchOk.len {bk P tl : List Nat} {n nb : Nat} (h : TouchOk bk P tl) (hP : ∀ q ∈ P, q < n) (hb : ∀ q, q < n → bF bk q < nb) : tl.length ≤ nb := nodup_lt h.nd (h.lt hP hb)
theorem pre_lt {M : Mac} {x : Nat} {bf : List (List Nat)} (h : PredOk M x bf) {T : List Nat} (hT : ∀ t ∈ T, t < M.size) {k : Nat} (hk : k < T.length) (j : Nat) : ∀ q ∈ pre bf T k j, q < M.size := fun q hq => by
  refine flat_lt h (T := T.take (k + 1)) (fun t ht => hT t (List.mem_of_mem_take ht)) q ?_
  rw [take_get hk rfl, flat_snoc]
  unfold pre at hq
  rw [List.mem_append] at hq ⊢
  exact hq.imp (fun h => h) fun h => List.mem_of_mem_take h
def RefSays (M : Mac) (T : Nat → Prop) (x B pb : Nat) (Q : PTA) (mem : List (List Nat)) (wq : List Nat) (w : World) (e : Ending) (w' : World) : Prop :=
  ∃ Q' bk' mem' vm' wq' wts', e = .returned (.tuple #[]) ∧ PtB B w' pb Q' (natZ bk') vm' (natZ wq') wts' ∧ vm'.length = mem'.length ∧ RowsX Q'.hot w' B (natR mem') vm' ∧ PSt M bk' mem' wq' wts' ∧
    Hop M (bF bk') (fun b => b ∈ wq') T (x + 1) ∧ wq'.length + mem.length = wq.length + mem'.length ∧ PtS pb Q Q' w w'
theorem IBX.lt {X : Dom} {w : World} {B k : Nat} (h : IBX X w B k) : k < w.heap.size := lt_of_block h.2.2.choose_spec.choose_spec
theorem RdII.natr {w : World} {D : Dom} {A : Option Addr} {c : Nat} {mem : List (List Nat)} (h : RdII w D A c (natR mem)) {k : Nat} (hk : k < mem.length) : ∃ b o A' c', A = some ⟨b, o, none⟩ ∧ b < w.heap.size ∧ RdI w D A' c' (natZ (mem.getD k [])) ∧ w.cell? ⟨b, o + k, none⟩ = some (.slice A' (mem.getD k []).length c') := by
  obtain ⟨b, o, A', c', r, e, _, hl, hr, h1, h2⟩ := h.get (by rw [natR_len]; exact hk)
  have := hr.out
  rw [natR_get] at this
  subst this
  rw [natZ_len] at h2
  exact ⟨b, o, A', c', e, hl, h1, h2⟩

theorem keeps_old {w w1 w2 : World} (h1 : Below w.heap.size w w1) (h2 : Below w.heap.size w w2) (hs : w1.heap.size ≤ w2.heap.size) : Keeps (fun b => b < w.heap.size) w1 w2 := ⟨hs, fun b hb _ => (h2.block b hb).trans (h1.block b hb).symm⟩
set_option maxRecDepth 100000 in
set_option maxHeartbeats 8000000 in
theorem refine_any (M : Mac) (hM : M.Ok) (hT : Total M) (x : Nat) (hx : x < M.ins) (B pb : Nat) (Q : PTA) (bk : List Nat) (mem : List (List Nat)) (vm : List Value) (wq : List Nat) (wts : List Bool) (bf : List (List Nat)) (tg : List Nat) (Ab : Option Addr) (cb : Nat) (At : Option Addr) (ct : Nat) (w : World)
    (h : PtB B w pb Q (natZ bk) vm (natZ wq) wts) (hB : B ≤ w.heap.size) (hvl : vm.length = mem.length) (hmr : RowsX Q.hot w B (natR mem) vm) (hst : PSt M bk mem wq wts) (hop : Hop M (bF bk) (fun b => b ∈ wq) (fun s => s ∈ tg) x)
    (hbf : RdII w (fun k => ¬ Q.V pb k) Ab cb (natR bf)) (hpr : PredOk M x bf) (htg : RdI w (IBX Q.hot w B) At ct (natZ tg)) (htn : tg.Nodup) (htl : ∀ t ∈ tg, t < M.size) (hsz : M.size ≤ 3000) :
    Calls Try.prog 57 #[.pointer (some ⟨pb, 0, none⟩), .slice Ab bf.length cb, .slice At tg.length ct] w (RefSays M (fun s => s ∈ tg) x B pb Q mem wq w) := by
  obtain ⟨i0, hti, hz0, hz1, hz2⟩ := info_parts int_info2
  have H0 := hid h
  have HR0 := hid hmr
  have HVL := hid hvl
  have HST := hid hst
  have HOP := hid hop
  have HBF := hid hbf
  have HPR := hid hpr
  have HTG := hid htg
  have HTN := hid htn
  have HTL := hid htl
  have hbl := hst.len
  have htgl := htg.len
  rw [natZ_len] at htgl
  have hbfl := hbf.len
  rw [natR_len] at hbfl
  have hpl := hpr.len
  have hbl1 : bk.length ≤ M.size := by omega
  have hbl2 : M.size ≤ bk.length := by omega
  have hbf1 : bf.length ≤ M.size := by omega
  have hbf2 : M.size ≤ bf.length := by omega
  have hrng := hid hst.part.rng
  have hmle := hst.part.le
  clear h hmr hvl hst hop hbf hpr htg htn htl hbl hpl
  have hmm := @run_makeMap Try.prog
  have he0 : ∀ w : World, (binOp .eql 34 (.slice none 0 0) (.slice none 0 0)).run Try.prog w = .ok (.bool true) w := fun _ => rfl
  have he1 : ∀ (w : World) (a : Addr) (n c : Nat), (binOp .eql 34 (.slice (some a) n c) (.slice none 0 0)).run Try.prog w = .ok (.bool false) w := fun _ _ _ _ => rfl
  go_enter Try.func57, Try.ntmps57
  go_upto_region 3 with (fail)
  refine wp_gen fun W1 hW1 => ?_
  have hb1 : Below w.heap.size w W1 := by rw [hW1]; go_grown
  have hi1 : HtI w.heap.size W1 w.heap.size [] bk [] (.slice none 0 0) [] := by rw [hW1]; exact HtI.start w bk (Nat.le_refl _)
  have HI1 := hid hi1
  have HB1 := hid hb1
  obtain ⟨hb, hhb⟩ : ∃ hb, hb = w.heap.size := ⟨_, rfl⟩
  clear hW1 hb1 hi1 hmm
  rw [← hhb]
  have HHB := hid hhb
  clear hhb
  go_loopw [7, 18] (fun s t wr => ∃ (k : Nat) (lv : List (Nat × Value)) (A : Option Addr) (c : Nat) (tl : List Nat), k ≤ tg.length ∧ t = .int .i64 (k : Int) ∧ s = .slice A tl.length c ∧ HtI w.heap.size wr hb lv bk (flat bf (tg.take k)) (.slice A tl.length c) tl ∧ TouchOk bk (flat bf (tg.take k)) tl ∧ Below w.heap.size w wr) (fun _ t _ => tg.length - (intOf t).toNat)
  case atStart => exact ⟨0, [], none, 0, [], Nat.zero_le _, rfl, rfl, by rw [HHB.out]; exact HI1.out, TouchOk.nil bk, HB1.out⟩
  case round =>
    clear HI1 HB1
    obtain ⟨k, lv, A, c, tl, hk, rfl, rfl, hi, hto, hbw⟩ := hrel
    have HI := hid hi
    have HTO := hid hto
    have HBW := hid hbw
    have hszw := hbw.size
    clear hi hto hbw
    by_cases hlt : k < tg.length
    · have hki : (k : Int) < tg.length := by omega
      obtain ⟨tb, too, t, hAt, htbl, HTQ, htm, htc⟩ := (HTG.out.keep (Keeps.of_below HBW.out fun _ h => h.lt)).natc hlt
      subst hAt
      have htM := HTL.out t htm
      obtain ⟨fb, fo, Af, cf, hAf, hfbl, hfr, hfc⟩ := (HBF.out.old.keep (Keeps.of_below HBW.out fun _ h => h)).natr (show t < bf.length by omega)
      subst hAf
      obtain ⟨fl, hfl⟩ : ∃ l, l = bf.getD t [] := ⟨_, rfl⟩
      rw [← hfl] at hfr hfc
      have HFL := hid hfl
      have HFR := hid hfr
      have hfrl := hfr.len
      rw [natZ_len] at hfrl
      have hti2 : (t : Int) < bf.length := by omega
      have htg2 : (t : Int) < M.size := by omega
      clear htm hfl hfr
      obtain ⟨w1, rfl⟩ : ∃ w1 : World, w1 = wr := ⟨_, rfl⟩
      go_wp2_with fail
      go_loopw [7, 27] (fun s t wr => ∃ (j : Nat) (lv : List (Nat × Value)) (A : Option Addr) (c : Nat) (tl : List Nat), j ≤ fl.length ∧ t = .int .i64 (j : Int) ∧ s = .slice A tl.length c ∧ HtI w.heap.size wr hb lv bk (pre bf tg k j) (.slice A tl.length c) tl ∧ TouchOk bk (pre bf tg k j) tl ∧ Below w.heap.size w wr ∧ w1.heap.size ≤ wr.heap.size) (fun _ t _ => fl.length - (intOf t).toNat)
      case atStart => exact ⟨0, lv, A, c, tl, Nat.zero_le _, rfl, rfl, by rw [pre_zero]; exact HI.out, by rw [pre_zero]; exact HTO.out, HBW.out, Nat.le_refl _⟩
      case round =>
        have HBWO := HBW
        clear HI HTO htc hfc
        obtain ⟨j, lv, A, c, tl, hj, rfl, rfl, hi, hto, hbw, hs1⟩ := hrel
        have HI := hid hi
        have HTO := hid hto
        have HBW := hid hbw
        have hszw2 := hbw.size
        have HTQ2 : Hid (fl = bf.getD (tg.getD k 0) []) := hid (by rw [HTQ.out, HFL.out])
        clear hi hto hbw
        by_cases hjl : j < fl.length
        · have hji : (j : Int) < fl.length := by omega
          obtain ⟨sb, so, q, hAs, hsbl, HQ, hqm, hqc⟩ := (HFR.out.keep (keeps_old HBWO.out HBW.out hs1)).natc hjl
          subst hAs
          have hqM : q < M.size := ((HPR.out.me t q htM).1 (HFL.out ▸ hqm)).1
          have hqi : (q : Int) < bk.length := by omega
          have hqi2 : (q : Int) < M.size := by omega
          obtain ⟨b, hbq⟩ : ∃ b, bF bk q = b := ⟨_, rfl⟩
          have HBQ := hid hbq
          have hPB := H0.out.later HBW.out
          have x0 := hPB.cells.1
          obtain ⟨g, hg, hgB, hgl, hcells, -⟩ := own_ptr hPB.bo (by rw [natZ_len]; omega)
          rw [hg, natZ_len] at x0
          have gc := (hcells q (.int .i64 (b : Int)) (by rw [← hbq]; unfold bF natZ; simp [List.getD, show q < bk.length by omega])).1
          have hple : (pre bf tg k j).length ≤ 3000 := Nat.le_trans (pre_len HPR.out HTN.out HTL.out hlt j) hsz
          have hhl : (hitL bk (pre bf tg k j) b).length ≤ 3000 := Nat.le_trans (hitL_le _ _ _) hple
          have htll : tl.length ≤ 3000 := Nat.le_trans (HTO.out.len (pre_lt HPR.out HTL.out hlt j) hrng.out) (by omega)
          have hps := hid (pre_succ bf tg (k := k) (j := j) (q := q) (by rw [← HTQ2.out]; exact hjl) (by rw [← HTQ2.out]; exact HQ.out))
          have hlk := HI.out.look b
          have hbi0 : (0 : Int) ≤ (b : Int) := by omega
          have hBw : w.heap.size ≤ wr.heap.size := hszw2
          clear hbq hPB hcells hqm hg
          rcases HI.out.shape b with ⟨he, hv0⟩ | ⟨hg9, hc9, hpos, hv0⟩
          · rw [hv0] at hlk
            have HE := hid he
            have HV0 := hid hv0
            clear he hv0
            go_upto_region 11 with (at_builtin; go_must (refine wpList_append_rd _ rfl (.tmp 42) (.tmp 44) 34 rfl w.heap.size 3 i0 _ 1 8 Try.underlying34 hti hz0 hz1 hz2 rfl (by omega) (.slice A tl.length c) tl.length _ rfl (HI.out.tow.alloc _) _ (some ⟨wr.heap.size, 0, none⟩) 1 1 _ rfl (Rd.cell1 (cell_new wr _ _ _ _ _ rfl rfl)) (by simp [Value.oneCell']) (by omega) (maxLen_le (by omega)) (by simp; omega) ?_); intro A5 c5 w5 hown5 hg5 hat5)
            have hi5 := (HI.out.later (show Below wr.heap.size wr (wr.alloc (.cells #[.int .i64 (b : Int)] 3)) from by go_grown)).touch hg5 hown5 hat5
            have hb5 : Below w.heap.size w w5 := Below.grown (HBW.out.trans ((show Below wr.heap.size wr _ from by go_grown).mono hszw2)) hg5 (by simp; omega) (fun k hk => (HI.out.tow.lt k hk).1)
            have HI5 := hid hi5
            have HB5 := hid hb5
            have hlk5 := hi5.look b
            rw [HV0.out] at hlk5
            have hs5 := hb5.size
            have hs15 : w1.heap.size ≤ w5.heap.size := by have a1 := hg5.size; simp at a1; omega
            clear hi5 hb5 hown5 hg5 hat5 hlk gc hqc x0
            go_wp2_with (at_builtin; go_must (refine wpList_append_rd _ rfl (.tmp 50) (.tmp 52) 34 rfl w.heap.size 3 i0 _ 1 8 Try.underlying34 hti hz0 hz1 hz2 rfl (by omega) (.slice none 0 0) 0 [] rfl ⟨rfl, .inl ⟨rfl, rfl⟩⟩ _ (some ⟨w5.heap.size, 0, none⟩) 1 1 _ rfl (Rd.cell1 (cell_new w5 _ _ _ _ _ rfl rfl)) (by simp [Value.oneCell']) (by omega) (maxLen_le (by omega)) (by simp; omega) ?_); intro A6 c6 w6 hown6 hg6 hat6; simp only [Nat.zero_add, List.nil_append] at hown6 hat6 ⊢; have hm6 : MapIs encI w6 hb lv := HI5.out.map.of_block ((hg6.block hb (by have := HI5.out.map.lt; simp; omega) (by simp [Value.ownBlock])).trans (Below.heap_alloc _ _ _ HI5.out.map.lt)); obtain ⟨w7, hup, hm7, hg7, hz7⟩ := run_update_b int_key (P := Try.prog) (T := 105) (E := 34) (by kernel_rfl) hm6 b (.slice A6 1 c6); have hup' : (Instr.mapUpdate 105 (.map (some hb)) (.int .i64 (b : Int)) (.slice A6 1 c6)).run Try.prog w6 = .ok () w7 := hup; clear hup)
            have hi7 := (HI5.out.later (show Below w5.heap.size w5 (w5.alloc (.cells #[.int .i64 (q : Int)] 3)) from by go_grown)).hit (q := q) (b := b) HBQ.out (by rw [HV0.out]; exact hg6) (v5 := .slice A6 1 c6) (by rw [HE.out]; exact hown6) (by rw [HV0.out]; exact hat6) hg7 hm7
            have hb7 : Below w.heap.size w w7 := Below.grown (Below.grown (HB5.out.trans ((show Below w5.heap.size w5 _ from by go_grown).mono hs5)) hg6 (by simp; omega) (fun k hk => by cases hk)) hg7 (by have := hg6.size; simp at this; omega) (fun k hk => by injection hk with hk; subst hk; exact HI5.out.hbB)
            have hto7 := HTO.out.new (q := q) (by rw [HBQ.out]; exact HE.out)
            rw [← hps.out] at hi7 hto7
            rw [HBQ.out] at hto7
            have HI7 := hid hi7
            have HB7 := hid hb7
            have HTO7 := hid hto7
            have hs7 : w1.heap.size ≤ w7.heap.size := by have a1 := hg6.size; have a2 := hg7.size; simp at a1; omega
            clear hi7 hb7 hto7 hown6 hg6 hat6 hm6 hg7 hm7 hz7 hup' hlk5
            go_roundw
            case rel => exact ⟨j + 1, updB lv b (.slice A6 1 c6), A5, c5, tl ++ [b], by omega, by go_num, by rw [List.length_append]; rfl, by rw [List.length_append]; exact HI7.out, HTO7.out, HB7.out, hs7⟩
            case measure => simp [intOf]; omega
          · have hrow := HI.out.row b
            rw [hv0] at hlk hrow
            have HROW := hid hrow
            have HV0 := hid hv0
            clear hv0 hrow
            go_wp2_with (at_builtin; go_must (refine wpList_append_rd _ rfl (.tmp 50) (.tmp 52) 34 rfl w.heap.size 3 i0 _ 1 8 Try.underlying34 hti hz0 hz1 hz2 rfl (by omega) (.slice (some ⟨hg9, 0, none⟩) (hitL bk (pre bf tg k j) b).length hc9) (hitL bk (pre bf tg k j) b).length _ rfl (HROW.out.alloc _) _ (some ⟨wr.heap.size, 0, none⟩) 1 1 _ rfl (Rd.cell1 (cell_new wr _ _ _ _ _ rfl rfl)) (by simp [Value.oneCell']) (by omega) (maxLen_le (by omega)) (by simp; omega) ?_); intro A6 c6 w6 hown6 hg6 hat6; have hm6 : MapIs encI w6 hb lv := HI.out.map.of_block ((hg6.block hb (by have := HI.out.map.lt; simp; omega) (fun e => own_map HROW.out HI.out.map e.symm)).trans (Below.heap_alloc _ _ _ HI.out.map.lt)); obtain ⟨w7, hup, hm7, hg7, hz7⟩ := run_update_b int_key (P := Try.prog) (T := 105) (E := 34) (by kernel_rfl) hm6 b (.slice A6 ((hitL bk (pre bf tg k j) b).length + 1) c6); have hup' : (Instr.mapUpdate 105 (.map (some hb)) (.int .i64 (b : Int)) (.slice A6 ((hitL bk (pre bf tg k j) b).length + 1) c6)).run Try.prog w6 = .ok () w7 := hup; clear hup)
            have hi7 := (HI.out.later (show Below wr.heap.size wr (wr.alloc (.cells #[.int .i64 (q : Int)] 3)) from by go_grown)).hit (q := q) (b := b) HBQ.out (by rw [HV0.out]; exact hg6) (v5 := .slice A6 ((hitL bk (pre bf tg k j) b).length + 1) c6) hown6 (by rw [HV0.out]; exact hat6) hg7 hm7
            have hb7 : Below w.heap.size w w7 := Below.grown (Below.grown (HBW.out.trans ((show Below wr.heap.size wr _ from by go_grown).mono hszw2)) hg6 (by simp; omega) (fun k hk => (HROW.out.lt k hk).1)) hg7 (by have := hg6.size; simp at this; omega) (fun k hk => by injection hk with hk; subst hk; exact HI.out.hbB)
            have hto7 := HTO.out.old (q := q) (by rw [HBQ.out]; exact List.length_pos_iff.1 hpos)
            rw [← hps.out] at hi7 hto7
            have HI7 := hid hi7
            have HB7 := hid hb7
            have HTO7 := hid hto7
            have hs7 : w1.heap.size ≤ w7.heap.size := by have a1 := hg6.size; have a2 := hg7.size; simp at a1; omega
            clear hi7 hb7 hto7 hown6 hg6 hat6 hm6 hg7 hm7 hz7 hup' hlk gc hqc x0
            go_roundw
            case rel => exact ⟨j + 1, _, A, c, tl, by omega, by go_num, rfl, HI7.out, HTO7.out, HB7.out, hs7⟩
            case measure => simp [intOf]; omega
        · obtain rfl : j = fl.length := by omega
          go_wp2_with fail
          go_roundw
          case rel => exact ⟨k + 1, lv, A, c, tl, by omega, by go_num, rfl, by rw [← pre_all bf tg hlt, ← HTQ2.out]; exact HI.out, by rw [← pre_all bf tg hlt, ← HTQ2.out]; exact HTO.out, HBW.out⟩
          case measure => simp [intOf]; omega
    · obtain rfl : k = tg.length := by omega
      rw [List.take_length] at HI HTO
      obtain ⟨P, hP⟩ : ∃ P, P = flat bf tg := ⟨_, rfl⟩
      rw [← hP] at HI HTO
      have hPm : ∀ q, q ∈ P ↔ q < M.size ∧ dl M q x ∈ tg := fun q => by rw [hP]; exact flat_mem HPR.out HTL.out q
      have hPn : P.Nodup := by rw [hP]; exact flat_nodup HPR.out HTN.out HTL.out
      have HPM := hid hPm
      have HPN := hid hPn
      have hPle : P.length ≤ M.size := nodup_lt hPn fun q hq => ((hPm q).1 hq).1
      have htlt : ∀ b ∈ tl, b < mem.length := HTO.out.lt (fun q hq => ((hPm q).1 hq).1) hrng.out
      have HTLT := hid htlt
      have htll : tl.length ≤ 3000 := Nat.le_trans (HTO.out.len (fun q hq => ((hPm q).1 hq).1) hrng.out) (by omega)
      have HP1 := hid (H0.out.later HBW.out)
      have HR1 := hid (H0.out.rows HR0.out (PtS.of_below pb Q HBW.out))
      have HRS := hid (RefI.start (T := fun s => s ∈ tg) HST.out HOP.out HTO.out hPm)
      clear hP hPm hPn htlt
      obtain ⟨w1, rfl⟩ : ∃ w1 : World, w1 = wr := ⟨_, rfl⟩
      go_wp2_with fail
      go_loopw [58] (fun t wr => ∃ (k : Nat) (Q' : PTA) (bk' : List Nat) (mem' : List (List Nat)) (vm' : List Value) (wq' : List Nat) (wts' : List Bool), k ≤ tl.length ∧ t = .int .i64 (k : Int) ∧ PtB B wr pb Q' (natZ bk') vm' (natZ wq') wts' ∧ vm'.length = mem'.length ∧ RowsX Q'.hot wr B (natR mem') vm' ∧
        RefI M x bk mem (fun s => s ∈ tg) tl k bk' mem' wq' wts' ∧ wq'.length + mem.length = wq.length + mem'.length ∧ PtS pb Q Q' w1 wr) (fun t _ => tl.length - (intOf t).toNat)
      case atStart => exact ⟨0, Q, bk, mem, vm, wq, wts, Nat.zero_le _, rfl, HP1.out, HVL.out, HR1.out, HRS.out, rfl, PtS.refl _ _ _⟩
      case round =>
        clear HRS
        obtain ⟨k, Q', bk', mem', vm', wq', wts', hk, rfl, hp, hvl, hr, href, hcnt, hps⟩ := hrel
        have HP := hid hp
        have HVL' := hid hvl
        have HR := hid hr
        have HREF := hid href
        have HCNT := hid hcnt
        have HPS := hid hps
        have hszr := hps.chg.size
        have HIR := hid (HI.out.keep (hps.chg.keeps fun b hb hd hv => by have := H0.out.vlt hv; omega))
        clear hp hvl hr href hcnt hps
        by_cases hlt2 : k < tl.length
        · have hki : (k : Int) < tl.length := by omega
          have hrd : RdI wr (fun b => w.heap.size ≤ b) A c (natZ tl) := by
            unfold RdI
            rw [natZ_len]
            exact Rd.own HIR.out.tow (by omega) (fun _ h => h)
          obtain ⟨sb, so, b, hAs, hsbl, HQ, hbm, hbc⟩ := hrd.natc hlt2
          subst hAs
          have hbl0 := HTLT.out b hbm
          have hble := HREF.out.le
          have hvl2 := HVL'.out
          have hbi : (b : Int) < vm'.length := by omega
          have hne := (HTO.out.me b).1 hbm
          rcases HIR.out.shape b with ⟨he, hv0⟩ | ⟨hg9, hc9, hpos, hv0⟩
          · exact absurd he hne
          have hlk0 := HIR.out.look b
          have hlk : ∀ n, (Instr.lookup 105 (.map (some hb)) (.int .i64 (b : Int)) false).run Try.prog (wr.drewN n) = .ok (hv lv b) (wr.drewN n) := fun n => (HIR.out.later ((Drawn.n wr n).below _)).look b
          rw [hv0] at hlk0
          rw [hv0] at hlk
          have hrow := HIR.out.row b
          rw [hv0] at hrow
          obtain ⟨Am, cm, hvb, hmrow⟩ := HR.out.get (show b < mem'.length by omega)
          obtain ⟨mg, hmg, hmgB, hmgl, hmc, -⟩ := own_ptr HP.out.mo (by omega)
          obtain ⟨mgc, mgf⟩ := hmc b _ hvb
          have x1 := HP.out.cells.2.1
          rw [hmg] at x1
          have HV0 := hid hv0
          have HROW := hid hrow
          have hmrl := hmrow.len
          rw [natZ_len] at hmrl
          obtain ⟨n1, hn1⟩ : ∃ n, n = (hitL bk P b).length := ⟨_, rfl⟩
          obtain ⟨n2, hn2⟩ : ∃ n, n = (mem'.getD b []).length := ⟨_, rfl⟩
          have hn1b : n1 ≤ 3000 := by rw [hn1]; exact Nat.le_trans (hitL_le _ _ _) (by omega)
          rw [← hn1] at hlk0 hpos
          rw [← hn1] at hlk
          rw [← hn2] at mgc hmrl
          have HN1 := hid hn1
          have HN2 := hid hn2
          have hblk := HREF.out.blk hlt2 HQ.out hbl0 HTO.out.nd HST.out
          have HBLK := hid hblk
          clear hbm hne hvl2 hvb hmrow hmg hmc hn1 hn2 hv0 hrow hrd hblk
          by_cases hcmp : n1 < n2
          · have hd1 : decide (n1 < n2) = true := by simpa using hcmp
            have hd2 : decide ((n1 : Int) < (n2 : Int)) = true := by simp; omega
            go_wp2_with fail
            go_quiet (fail)
            have hcut : ∀ n, Calls Try.prog 65 #[.pointer (some ⟨pb, 0, none⟩), .int .i64 (b : Int), .slice (some ⟨hg9, 0, none⟩) n1 hc9] (wr.drewN n) (CutSays B pb b Q' (natZ bk') mem' vm' (natZ wq') wts' (hitL bk P b) (wr.drewN n)) := fun n => by
              have hb0 : Below wr.heap.size wr (wr.drewN n) := (Drawn.n wr n).below _
              have hst := HREF.out.st
              have hpl := hst.part.le
              have hwl := hst.wle
              have hbkl := hst.len
              have hbm' : b < mem'.length := by omega
              have hS : RdI wr (IBX Q'.hot wr B) (some ⟨hg9, 0, none⟩) hc9 (natZ (hitL bk P b)) := by
                refine IBX.own (B' := w.heap.size) (n := (hitL bk P b).length) hB (fun k e hx => ?_) HROW.out (natZ_len _).symm (by rw [← HN1.out]; omega)
                have e' : some k = (hv lv b).ownBlock := by rw [HV0.out]; exact e
                have h1 := (HI.out.row b).lt k e'.symm
                have h2 := HPS.out.hot k h1.2 hx
                have h3 := H0.out.vlt (show Q.V pb k from by rcases h2 with h2 | h2; exact .inr (.inl h2); exact .inr (.inr (.inr (.inl h2))))
                omega
              have := cut_any B pb b Q' (natZ bk') mem' vm' (natZ wq') wts' (some ⟨hg9, 0, none⟩) hc9 (hitL bk P b) (wr.drewN n) (HP.out.later hb0) (Nat.le_trans (by omega) hb0.size) (by rw [HVL'.out]; omega) (by rw [natZ_len]; omega) HVL'.out hst.wl (HP.out.rows HR.out (PtS.of_below pb _ hb0)) hbm' (HP.out.row hS (PtS.of_below pb _ hb0)) (fun q hq => ?_) (fun q hq => ?_) (by rw [natZ_len]; omega) (Nat.le_trans (nodup_lt (hst.nd b hbm') fun q hq => ((hst.me b q hbm').1 hq).1) (by omega))
              · rw [← HN1.out] at this
                exact this
              · rw [natZ_len, hbkl]; exact ((HPM.out q).1 (hitL_mem.1 hq).1).1
              · rw [natZ_len, hbkl]; exact ((hst.me b q hbm').1 hq).1
            have HCUT := hid hcut
            clear hcut hd1 hd2 mgc mgf x1 hlk0
            go_wp2_with fail
            refine (HCUT.out _).mono ?_
            rintro e w3 ⟨Q3, vm3, stay, leave, rfl, hsd, hp3, hv3, hr3, hs3⟩
            obtain ⟨e1, hr4⟩ := HREF.out.cut hlt2 HQ.out hbl0 HTO.out.nd HST.out HPM.out HPN.out HTO.out hM hT hx (by rw [← HN1.out, ← HBLK.out.1, ← HN2.out]; exact hcmp) hsd
            rw [e1] at hp3
            have HP3 := hid hp3
            have HR4 := hid hr4
            have HV3 := hid hv3
            have HR3 := hid hr3
            have HS3 := hid (HPS.out.trans ((PtS.of_below pb Q' ((Drawn.n wr _).below _)).trans hs3))
            clear hsd hp3 hv3 hr3 hs3 e1 hr4
            go_wp2_with fail
            go_roundw
            case rel =>
              refine ⟨k + 1, Q3, cutK bk' leave b mem'.length, _, vm3, wq' ++ [mem'.length], wts' ++ [true], by omega, by go_num, by rw [natZ_snoc]; exact HP3.out, by rw [HV3.out]; simp, HR3.out, HR4.out, ?_, HS3.out⟩
              have := HCNT.out
              simp
              omega
            case measure => simp [intOf]; omega
          · have hd1 : decide (n1 < n2) = false := by simpa using hcmp
            have hd2 : decide ((n1 : Int) < (n2 : Int)) = false := by simp; omega
            have hr4 := HREF.out.skip hlt2 HQ.out hbl0 HTO.out.nd HST.out HPM.out HPN.out (by rw [← HN1.out, ← HBLK.out.1, ← HN2.out]; omega)
            have HR4 := hid hr4
            clear hr4
            go_wp2_with fail
            go_quiet (fail)
            clear hd1 hd2 mgc mgf x1 hlk0 hlk
            go_wp2_with fail
            go_roundw
            case rel =>
              have hb0 : ∀ n, Below wr.heap.size wr (wr.drewN n) := fun n => (Drawn.n wr n).below _
              exact ⟨k + 1, Q', bk', mem', vm', wq', wts', by omega, by go_num, HP.out.later (hb0 _), HVL'.out, HP.out.rows HR.out (PtS.of_below pb _ (hb0 _)), HR4.out, HCNT.out, HPS.out.trans (PtS.of_below pb _ (hb0 _))⟩
            case measure => simp [intOf]; omega
        · obtain rfl : k = tl.length := by omega
          have HD := hid HREF.out.done
          have HPT := hid ((PtS.of_below pb Q HBW.out).trans HPS.out)
          go_wp2_with fail
          refine bodyPost_ret (results_none rfl _ _ _) rfl ?_
          exact ⟨Q', bk', mem', vm', wq', wts', rfl, HP.out, HVL'.out, HR.out, HREF.out.st, HD.out, HCNT.out, HPT.out⟩
end Go.Proofs.Ytcmhginhfhiolaa
set_option linter.unusedVariables false
set_option linter.unusedSimpArgs false
namespace Go.Proofs.Ytcmhginhfhiolaa
open Go.RowKit
attribute [local go_sem] cell_alloc_old

def upF {α : Type} (f : Nat → α) (i : Nat) (v : α) : Nat → α := fun j => if j = i then v else f j
theorem upF_same {α : Type} (f : Nat → α) (i : Nat) (v : α) : upF f i v i = v := if_pos rfl
theorem upF_other {α : Type} (f : Nat → α) {i j : Nat} (v : α) (h : j ≠ i) : upF f i v j = f j := if_neg h
/-- The rows of ints: at 2 (x n + t) what leads to t by x, at 2 b + 1 the members of block b. -/
structure FamI (B : Nat) (w : World) (Q : PTA) (F : Nat → Value) (L : Nat → List Nat) : Prop where
  row : ∀ i, w.ownsRow B 3 1 (F i) (L i).length ((natZ (L i)).map (.int .i64))
  dis : ∀ i j, i ≠ j → ∀ k, some k = (F i).ownBlock → some k ≠ (F j).ownBlock
  cold : ∀ i k, some k = (F i).ownBlock → ¬ Q.hot k
structure DvI (B : Nat) (w : World) (pb : Nat) (Q : PTA) (bl : List Int) (vm : List Value) (wq : List Int) (wts : List Bool) (fb : Nat) (ib : Nat → Nat) (ins n : Nat) (F : Nat → Value) (L : Nat → List Nat) : Prop where
  p : PtB B w pb Q bl vm wq wts
  fam : FamI B w Q F L
  mem : ∀ b, b < vm.length → vm[b]? = some (F (2 * b + 1))
  memn : ∀ b, vm.length ≤ b → F (2 * b + 1) = .slice none 0 0
  fbx : ∃ cur, w.heap[fb]? = some (.cells cur 22 (0, 0)) ∧ ∀ x, x < ins → cur[x]? = some (.slice (some ⟨ib x, 0, none⟩) n n)
  ibx : ∀ x, x < ins → ∃ cur, w.heap[ib x]? = some (.cells cur 34 (0, 0)) ∧ cur.size = n ∧ ∀ t, t < n → cur[t]? = some (F (2 * (x * n + t)))
  inj : ∀ x y, x < ins → y < ins → x ≠ y → ib x ≠ ib y
  off : ∀ x, x < ins → some (ib x) ≠ blkOf Q.am
  fq : Q.af = some ⟨fb, 0, none⟩ ∧ Q.nf = ins ∧ Q.cf = ins
  bnd : B ≤ fb ∧ ∀ x, x < ins → B ≤ ib x
section
variable {B : Nat} {w w' w5 : World} {pb : Nat} {Q Q' : PTA} {bl : List Int} {vm : List Value} {wq : List Int} {wts : List Bool} {fb : Nat} {ib : Nat → Nat} {ins n : Nat} {F : Nat → Value} {L : Nat → List Nat} {v5 : Value}
theorem heap_ty {w : World} {k : Nat} {cs cs' : Array Value} {t t' : TypeId} {fr fr' : Nat × Nat} (h : w.heap[k]? = some (.cells cs t fr)) (h' : w.heap[k]? = some (.cells cs' t' fr')) : t = t' := by
  rw [h] at h'
  injection h' with h'
  injection h' with _ h'
theorem own_heap {base n' size : Nat} {e : TypeId} {v : Value} {xs : List Value} (h : w.ownsRow base e size v n' xs) {k : Nat} (e' : some k = v.ownBlock) : ∃ cs, w.heap[k]? = some (.cells cs e (0, 0)) := by
  rcases h.2 with ⟨rfl, _⟩ | ⟨g, cap, cur, rfl, _, hh, _⟩
  · cases e'
  · injection e' with e'
    subst e'
    exact ⟨_, hh⟩
/-- A block of ints that is not hot, or of another kind, is none of the partition's. -/
theorem PtB.notV (h : PtB B w pb Q bl vm wq wts) {k : Nat} {cs : Array Value} {t : TypeId} {fr : Nat × Nat} (hk : w.heap[k]? = some (.cells cs t fr)) (h1 : t = 3 → ¬ Q.hot k) (h2 : t = 34 → some k ≠ blkOf Q.am) (h3 : t ≠ 4) (h4 : t ≠ 65) : ¬ Q.V pb k := by
  rintro (rfl | e | e | e | e)
  · exact h4 (heap_ty hk h.box)
  · obtain ⟨cs', h5⟩ := own_heap h.bo (by rw [own_slice]; exact e)
    exact h1 (heap_ty hk h5) (.inl e)
  · obtain ⟨cs', h5⟩ := own_heap h.mo (by rw [own_slice]; exact e)
    exact h2 (heap_ty hk h5) e
  · obtain ⟨cs', h5⟩ := own_heap h.wo (by rw [own_slice]; exact e)
    exact h1 (heap_ty hk h5) (.inr e)
  · obtain ⟨cs', h5⟩ := own_heap h.two (by rw [own_slice]; exact e)
    exact h3 (heap_ty hk h5)
theorem DvI.rowV (h : DvI B w pb Q bl vm wq wts fb ib ins n F L) {i k : Nat} (e : some k = (F i).ownBlock) : ¬ Q.V pb k := by
  obtain ⟨cs, hk⟩ := own_heap (h.fam.row i) e
  exact h.p.notV hk (fun _ => h.fam.cold i k e) (fun e => absurd e (by decide)) (by decide) (by decide)
theorem DvI.ibV (h : DvI B w pb Q bl vm wq wts fb ib ins n F L) {x : Nat} (hx : x < ins) : ¬ Q.V pb (ib x) := by
  obtain ⟨cs, hk, _⟩ := h.ibx x hx
  exact h.p.notV hk (fun e => absurd e (by decide)) (fun _ => h.off x hx) (by decide) (by decide)
theorem DvI.fbV (h : DvI B w pb Q bl vm wq wts fb ib ins n F L) : ¬ Q.V pb fb := by
  obtain ⟨cs, hk, _⟩ := h.fbx
  exact h.p.notV hk (fun e => absurd e (by decide)) (fun e => absurd e (by decide)) (by decide) (by decide)
theorem DvI.row_ib (h : DvI B w pb Q bl vm wq wts fb ib ins n F L) {i k x : Nat} (e : some k = (F i).ownBlock) (hx : x < ins) : k ≠ ib x := fun e2 => by
  obtain ⟨cs, hk⟩ := own_heap (h.fam.row i) e
  obtain ⟨cs', hk', _⟩ := h.ibx x hx
  subst e2
  exact absurd (heap_ty hk hk') (by decide)
theorem DvI.row_fb (h : DvI B w pb Q bl vm wq wts fb ib ins n F L) {i k : Nat} (e : some k = (F i).ownBlock) : k ≠ fb := fun e2 => by
  obtain ⟨cs, hk⟩ := own_heap (h.fam.row i) e
  obtain ⟨cs', hk', _⟩ := h.fbx
  subst e2
  exact absurd (heap_ty hk hk') (by decide)
theorem DvI.ib_fb (h : DvI B w pb Q bl vm wq wts fb ib ins n F L) {x : Nat} (hx : x < ins) : ib x ≠ fb := fun e2 => by
  obtain ⟨cs, hk, _⟩ := h.ibx x hx
  obtain ⟨cs', hk', _⟩ := h.fbx
  rw [e2] at hk
  exact absurd (heap_ty hk hk') (by decide)
/-- All that lies outside of the partition's own blocks stays; the partition makes a step. -/
theorem DvI.step {vm' : List Value} {bl' wq' : List Int} {wts' : List Bool} (h : DvI B w pb Q bl vm wq wts fb ib ins n F L) (hp : PtB B w' pb Q' bl' vm' wq' wts') (hs : PtS pb Q Q' w w') (hvm : vm' = vm ∨ vm' = vm ++ [.slice none 0 0]) : DvI B w' pb Q' bl' vm' wq' wts' fb ib ins n F L := by
  have hk : ∀ k, k < w.heap.size → ¬ Q.V pb k → w'.heap[k]? = w.heap[k]? := fun k h1 h2 => hs.chg.block k h1 h2
  refine ⟨hp, ⟨fun i => own_agree (h.fam.row i) fun k e => hk k ((h.fam.row i).lt k e.symm).2 (h.rowV e), h.fam.dis, fun i k e hh => h.fam.cold i k e (hs.hot k ((h.fam.row i).lt k e.symm).2 hh)⟩, fun b hb => ?_, fun b hb => ?_, ?_, fun x hx => ?_, h.inj, fun x hx e => ?_, by rw [hs.fr.1, hs.fr.2.1, hs.fr.2.2]; exact h.fq, h.bnd⟩
  · rcases hvm with e | e
    · rw [e] at hb ⊢; exact h.mem b hb
    · rw [e] at hb ⊢
      rw [List.length_append, List.length_singleton] at hb
      by_cases h1 : b < vm.length
      · rw [List.getElem?_append, if_pos h1]; exact h.mem b h1
      · obtain rfl : b = vm.length := by omega
        rw [List.getElem?_append, if_neg h1, Nat.sub_self, h.memn _ (Nat.le_refl _)]; rfl
  · rcases hvm with e | e
    · rw [e] at hb; exact h.memn b hb
    · rw [e, List.length_append, List.length_singleton] at hb; exact h.memn b (by omega)
  · obtain ⟨cur, h1, h2⟩ := h.fbx
    exact ⟨cur, (hk fb (lt_of_block h1) h.fbV).trans h1, h2⟩
  · obtain ⟨cur, h1, h2⟩ := h.ibx x hx
    exact ⟨cur, (hk _ (lt_of_block h1) (h.ibV hx)).trans h1, h2⟩
  · obtain ⟨cur, h1, h2⟩ := h.ibx x hx
    exact h.ibV hx (hs.v _ (lt_of_block h1) (.inr (.inr (.inl e))))
theorem DvI.later (h : DvI B w pb Q bl vm wq wts fb ib ins n F L) (hb : Below w.heap.size w w') : DvI B w' pb Q bl vm wq wts fb ib ins n F L := h.step (h.p.later hb) (PtS.of_below pb Q hb) (.inl rfl)
/-- One row grows. -/
theorem FamI.grow {i q n5 c : Nat} (h : FamI B w Q F L) (hV : ∀ k, Q.hot k → k < w.heap.size) (hk : ∀ k, k < w.heap.size → some k ≠ (F i).ownBlock → k ≠ c → w'.heap[k]? = w.heap[k]?) (hc : ∀ j, some c ≠ (F j).ownBlock) (ho : w'.ownsRow B 3 1 v5 (L i ++ [q]).length ((natZ (L i ++ [q])).map (.int .i64)))
    (hat : v5.ownBlock = (F i).ownBlock ∨ v5.ownBlock = some n5) (hn : w.heap.size ≤ n5) : FamI B w' Q (upF F i v5) (upF L i (L i ++ [q])) := by
  have h5 : ∀ j, j ≠ i → ∀ k, some k = v5.ownBlock → some k ≠ (F j).ownBlock := fun j hj k e => by
    rcases hat with e5 | e5
    · rw [e5] at e
      exact h.dis i j (fun e => hj e.symm) k e
    · intro e2
      rw [e5] at e
      injection e with e
      have := ((h.row j).lt k e2.symm).2
      omega
  refine ⟨fun j => ?_, fun j l hjl k e => ?_, fun j k e => ?_⟩
  · by_cases e : j = i
    · subst e
      rw [upF_same, upF_same]; exact ho
    · rw [upF_other _ _ e, upF_other _ _ e]
      exact own_agree (h.row j) fun k e1 => hk k ((h.row j).lt k e1.symm).2 (h.dis j i e k e1) (fun e2 => hc j (by rw [← e2]; exact e1))
  · by_cases e1 : j = i
    · subst e1
      rw [upF_same] at e
      rw [upF_other _ _ (fun e2 => hjl e2.symm)]
      exact h5 l (fun e2 => hjl e2.symm) k e
    · rw [upF_other _ _ e1] at e
      by_cases e2 : l = i
      · subst e2
        rw [upF_same]
        exact fun e3 => h5 j e1 k e3 e
      · rw [upF_other _ _ e2]
        exact h.dis j l hjl k e
  · by_cases e1 : j = i
    · subst e1
      rw [upF_same] at e
      intro hh
      rcases hat with e5 | e5
      · rw [e5] at e
        exact h.cold j k e hh
      · rw [e5] at e
        injection e with e
        have := hV k hh
        omega
    · rw [upF_other _ _ e1] at e
      exact h.cold j k e
theorem idx_inj {n x y t s : Nat} (ht : t < n) (hs : s < n) (h : x * n + t = y * n + s) : x = y ∧ t = s := by
  have h1 : (x * n + t) / n = x := by rw [Nat.mul_comm, Nat.mul_add_div (by omega), Nat.div_eq_of_lt ht]; rfl
  have h2 : (y * n + s) / n = y := by rw [Nat.mul_comm, Nat.mul_add_div (by omega), Nat.div_eq_of_lt hs]; rfl
  have h3 : x = y := by rw [← h1, ← h2, h]
  subst h3
  exact ⟨rfl, by omega⟩
theorem DvI.hotlt (h : DvI B w pb Q bl vm wq wts fb ib ins n F L) : ∀ k, Q.hot k → k < w.heap.size := fun k hh => h.p.vlt (by
  rcases hh with e | e
  · exact .inr (.inl e)
  · exact .inr (.inr (.inr (.inl e))))
/-- What leads to t by x gets one more. -/
theorem DvI.pred {x t q : Nat} (h : DvI B w pb Q bl vm wq wts fb ib ins n F L) (hx : x < ins) (ht : t < n) (hg : w.grownBy w5 (F (2 * (x * n + t))).ownBlock) (ho : w5.ownsRow B 3 1 v5 ((L (2 * (x * n + t))).length + 1) ((natZ (L (2 * (x * n + t)))).map (.int .i64) ++ [.int .i64 (q : Int)]))
    (hat : v5.ownBlock = (F (2 * (x * n + t))).ownBlock ∨ v5.ownBlock = some w.heap.size) : DvI B (w5.setCell ⟨ib x, t, none⟩ v5) pb Q bl vm wq wts fb ib ins n (upF F (2 * (x * n + t)) v5) (upF L (2 * (x * n + t)) (L (2 * (x * n + t)) ++ [q])) ∧ Chg (fun k => B ≤ k) w (w5.setCell ⟨ib x, t, none⟩ v5) := by
  have key : ∀ k, k < w.heap.size → some k ≠ (F (2 * (x * n + t))).ownBlock → k ≠ ib x → (w5.setCell ⟨ib x, t, none⟩ v5).heap[k]? = w.heap[k]? := fun k h1 h2 h3 => by
    rw [Below.heap_setCell _ _ _ _ h3]
    exact hg.block k h1 h2
  obtain ⟨cx, hcx, hcn, hcg⟩ := h.ibx x hx
  have hib5 : w5.heap[ib x]? = some (.cells cx 34 (0, 0)) := (hg.block _ (lt_of_block hcx) fun e => h.row_ib e hx rfl).trans hcx
  have hsz : w.heap.size ≤ (w5.setCell ⟨ib x, t, none⟩ v5).heap.size := by simpa using hg.size
  refine ⟨⟨h.p.keep ⟨hsz, fun k hv hl => key k hl (fun e => h.rowV e hv) (fun e => h.ibV hx (e ▸ hv))⟩, h.fam.grow (n5 := w.heap.size) (c := ib x) h.hotlt key (fun j e => h.row_ib e hx rfl) ?_ hat (Nat.le_refl _), fun b hb => ?_, fun b hb => ?_, ?_, fun y hy => ?_, h.inj, h.off, h.fq, h.bnd⟩, ((Chg.refl _ w).grown hg (fun k e _ => ((h.fam.row _).lt k e).1)).set _ _ (fun _ => h.bnd.2 x hx)⟩
  · rw [List.length_append, natZ_snoc, List.map_append]
    exact ownsRow_setCell_other ho (own_ne ho hib5 (by decide)) _
  · rw [upF_other _ _ (by omega)]; exact h.mem b hb
  · rw [upF_other _ _ (by omega)]; exact h.memn b hb
  · obtain ⟨cur, h1, h2⟩ := h.fbx
    exact ⟨cur, (key fb (lt_of_block h1) (fun e => h.row_fb e rfl) (fun e => h.ib_fb hx e.symm)).trans h1, h2⟩
  · by_cases e : y = x
    · subst e
      refine ⟨cx.setIfInBounds t v5, set_block hib5 _, by rw [Array.size_setIfInBounds]; exact hcn, fun s hs => ?_⟩
      rw [Array.getElem?_setIfInBounds]
      by_cases e : t = s
      · subst e
        rw [if_pos rfl, if_pos (by omega), upF_same]
      · rw [if_neg e, upF_other _ _ (by omega)]
        exact hcg s hs
    · obtain ⟨cy, h1, h2, h3⟩ := h.ibx y hy
      refine ⟨cy, (key _ (lt_of_block h1) (fun e => h.row_ib e hy rfl) (h.inj y x hy hx e)).trans h1, h2, fun s hs => ?_⟩
      rw [upF_other _ _ (fun e2 => e (idx_inj hs ht (show y * n + s = x * n + t by omega)).1)]
      exact h3 s hs
/-- A block gets one more member. -/
theorem DvI.memb {b q mg : Nat} (h : DvI B w pb Q bl vm wq wts fb ib ins n F L) (hb : b < vm.length) (hm : Q.am = some ⟨mg, 0, none⟩) (hg : w.grownBy w5 (F (2 * b + 1)).ownBlock) (ho : w5.ownsRow B 3 1 v5 ((L (2 * b + 1)).length + 1) ((natZ (L (2 * b + 1))).map (.int .i64) ++ [.int .i64 (q : Int)]))
    (hat : v5.ownBlock = (F (2 * b + 1)).ownBlock ∨ v5.ownBlock = some w.heap.size) : DvI B (w5.setCell ⟨mg, b, none⟩ v5) pb Q bl (vm.set b v5) wq wts fb ib ins n (upF F (2 * b + 1) v5) (upF L (2 * b + 1) (L (2 * b + 1) ++ [q])) ∧ Chg (fun k => B ≤ k) w (w5.setCell ⟨mg, b, none⟩ v5) := by
  have hmg : some mg = blkOf Q.am := by rw [hm]; rfl
  obtain ⟨cm, hcm⟩ := own_heap h.p.mo (k := mg) (by rw [own_slice]; exact hmg)
  have hrm : ∀ j k, some k = (F j).ownBlock → k ≠ mg := fun j k e e2 => by
    obtain ⟨cs, hk⟩ := own_heap (h.fam.row j) e
    rw [e2] at hk
    exact absurd (heap_ty hk hcm) (by decide)
  have hsz0 : w.heap.size ≤ w5.heap.size := hg.size
  have hp5 : PtB B w5 pb Q bl vm wq wts := h.p.keep ⟨hsz0, fun k hv hl => hg.block k hl fun e => h.rowV e hv⟩
  have hset := hp5.setM hm v5 (q := b)
  have key : ∀ k, k < w.heap.size → some k ≠ (F (2 * b + 1)).ownBlock → k ≠ mg → (w5.setCell ⟨mg, b, none⟩ v5).heap[k]? = w.heap[k]? := fun k h1 h2 h3 => by
    rw [Below.heap_setCell _ _ _ _ h3]
    exact hg.block k h1 h2
  have hcm5 : w5.heap[mg]? = some (.cells cm 34 (0, 0)) := (hg.block _ (lt_of_block hcm) fun e => hrm _ _ e rfl).trans hcm
  have hmgb : B ≤ mg := (h.p.mo.lt mg (by rw [own_slice]; exact hmg.symm)).1
  refine ⟨⟨hset.1, h.fam.grow (n5 := w.heap.size) (c := mg) h.hotlt key (fun j e => hrm j mg e rfl) ?_ hat (Nat.le_refl _), fun c hc => ?_, fun c hc => ?_, ?_, fun y hy => ?_, h.inj, h.off, h.fq, h.bnd⟩, ((Chg.refl _ w).grown hg (fun k e _ => ((h.fam.row _).lt k e).1)).set _ _ (fun _ => hmgb)⟩
  · rw [List.length_append, natZ_snoc, List.map_append]
    exact ownsRow_setCell_other ho (own_ne ho hcm5 (by decide)) _
  · rw [List.length_set] at hc
    rw [List.getElem?_set]
    by_cases e : b = c
    · subst e
      rw [if_pos rfl, if_pos hb, upF_same]
    · rw [if_neg e, upF_other _ _ (by omega)]; exact h.mem c hc
  · rw [List.length_set] at hc
    rw [upF_other _ _ (by omega)]; exact h.memn c hc
  · obtain ⟨cur, h1, h2⟩ := h.fbx
    exact ⟨cur, (key fb (lt_of_block h1) (fun e => h.row_fb e rfl) (fun e => h.fbV (e ▸ .inr (.inr (.inl hmg))))).trans h1, h2⟩
  · obtain ⟨cy, h1, h2, h3⟩ := h.ibx y hy
    refine ⟨cy, (key _ (lt_of_block h1) (fun e => h.row_ib e hy rfl) (fun e => h.ibV hy (e ▸ .inr (.inr (.inl hmg))))).trans h1, h2, fun s hs => ?_⟩
    rw [upF_other _ _ (by omega)]
    exact h3 s hs
end
end Go.Proofs.Ytcmhginhfhiolaa
