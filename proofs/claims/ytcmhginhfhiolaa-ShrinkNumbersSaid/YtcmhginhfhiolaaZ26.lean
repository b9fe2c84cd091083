/-
  The least controller: the blocks of the trimmed one; plain.
  The moves of the blocks, as a function value.
  Walk of Least.
-/
import Derived.Test.YtcmhginhfhiolaaZ24
import Derived.Test.YtcmhginhfhiolaaZ06
import Derived.Test.YtcmhginhfhiolaaZ11
import Derived.StillTailTactics
import Derived.Test.YtcmhginhfhiolaaZ25
import Derived.Test.YtcmhginhfhiolaaZ14
set_option linter.unusedVariables false
set_option linter.unusedSimpArgs false
namespace Go.Proofs.Ytcmhginhfhiolaa

theorem row_get {f : Nat → Int} {n x : Nat} (h : x < n) : ((List.range n).map f).getD x 0 = f x := by
  rw [List.getD_eq_getElem?_getD, List.getElem?_map, List.getElem?_range h]; rfl
section
variable {A : Mac}
theorem build_start (A : Mac) : (build A).start = 0 := rfl
theorem build_len (A : Mac) : (build A).out.length = (ord A).length ∧ (build A).next.length = (ord A).length := ⟨bOuts_len _ _, bNexts_len _ _⟩
theorem build_out {i x : Nat} (hA : A.Ok) (ht : Total A) (hi : i < (ord A).length) (hx : x < A.ins) : ((build A).out.getD i []).length = A.ins ∧ ((build A).out.getD i []).getD x 0 = mvO A ((ord A).getD i 0) x := by
  have e : (build A).out.getD i [] = bOut A ((ord A).getD i 0) := bOuts_get A hi
  rw [e]
  unfold bOut
  refine ⟨by simp, ?_⟩
  rw [row_get hx]; rfl
theorem build_next {i x : Nat} (hA : A.Ok) (ht : Total A) (hi : i < (ord A).length) (hx : x < A.ins) : ((build A).next.getD i []).length = A.ins ∧ ((build A).next.getD i []).getD x 0 = (((ord A).idxOf (dl A ((ord A).getD i 0) x) : Nat) : Int) := by
  have e : (build A).next.getD i [] = bNext A (ord A) i ((ord A).getD i 0) := bNexts_get A hi
  have hq := ord_lt hA _ (getD_mem _ 0 hi)
  rw [e]
  unfold bNext
  refine ⟨by simp, ?_⟩
  rw [row_get hx, dl_mv ht hq hx]
/-- The trimmed controller is the machine by places. -/
theorem trim_mv {i x : Nat} (hA : A.Ok) (ht : Total A) (hi : i < (ord A).length) (hx : x < A.ins) : (wholeM (build A)).mv i x = (posM A).mv i x := by
  have hq := ord_lt hA _ (getD_mem _ 0 hi)
  show some (((build A).out.getD i []).getD x 0, (((build A).next.getD i []).getD x 0).toNat) = (A.mv ((ord A).getD i 0) x).map fun z => (z.1, (ord A).idxOf z.2)
  rw [(build_out hA ht hi hx).2, (build_next hA ht hi hx).2, dl_mv ht hq hx]; rfl
/-- Two machines that move alike: the same states have the same outputs. -/
theorem sim_congr {M N : Mac} (hM : M.Ok) (hs : N.size = M.size) (hi : N.ins = M.ins) (h : ∀ i x, i < M.size → x < M.ins → N.mv i x = M.mv i x) {p q : Nat} (hp : p < M.size) (hq : q < M.size) (hsim : Sim M M p q) : Sim N N p q := by
  obtain ⟨R, hR, hpq⟩ := hsim
  refine ⟨fun i j => R i j ∧ i < M.size ∧ j < M.size, fun i j hij x hx => ?_, hpq, hp, hq⟩
  rw [hi] at hx
  obtain ⟨o, t, t', h1, h2, h3⟩ := hR i j hij.1 x hx
  exact ⟨o, t, t', by rw [h i x hij.2.1 hx]; exact h1, by rw [h j x hij.2.2 hx]; exact h2, h3, hM.tgt i x o t hij.2.1 hx h1, hM.tgt j x o t' hij.2.2 hx h2⟩
end
/-- The first state of a block. -/
def hd (mem : List (List Nat)) (c : Nat) : Nat := (mem.getD c []).getD 0 0
/-- The machine of the blocks. -/
def leastM (T : Mac) (bk : List Nat) (mem : List (List Nat)) : Mac := ⟨mem.length, bF bk T.start, T.ins, T.outs, fun c x => some (mvO T (hd mem c) x, bF bk (dl T (hd mem c) x))⟩
section
variable {T L : Mac} {bk wq : List Nat} {mem : List (List Nat)} {wts : List Bool}
theorem hd_in (h : PSt T bk mem wq wts) {c : Nat} (hc : c < mem.length) : 0 < (mem.getD c []).length ∧ hd mem c < T.size ∧ bF bk (hd mem c) = c := by
  obtain ⟨q, hq, hb⟩ := h.part.full c hc
  have h1 := (h.me c q hc).2 ⟨hq, hb⟩
  have h2 := List.length_pos_of_mem h1
  exact ⟨h2, (h.me c _ hc).1 (getD_mem _ 0 h2)⟩
theorem least_ok (h : PSt T bk mem wq wts) (hT : T.Ok) (ht : Total T) : (leastM T bk mem).Ok := by
  refine ⟨h.part.rng _ hT.st, fun c x o t hc hx e => ?_⟩
  have e' : some (mvO T (hd mem c) x, bF bk (dl T (hd mem c) x)) = some (o, t) := e
  injection e' with e'
  injection e' with _ e'
  rw [← e']
  exact h.part.rng _ (dl_lt hT ht (hd_in h hc).2.1 hx)
theorem least_quo (h : PSt T bk mem wq wts) (hT : T.Ok) (ht : Total T) (hsim : ∀ p q, p < T.size → q < T.size → (bF bk p = bF bk q ↔ Sim T T p q)) (hL : L.Ok) (hLt : Total L) (e1 : L.size = T.size) (e2 : L.start = T.start) (e3 : L.ins = T.ins) (e4 : L.outs = T.outs)
    (hmv : ∀ i x, i < T.size → x < T.ins → T.mv i x = L.mv i x) : IsQuo L (final L) (build (leastM T bk mem)) := by
  refine ⟨bF bk, leastM T bk mem, ⟨by rw [e3]; rfl, by rw [e4]; rfl, by rw [e2]; rfl, fun i x o t hi hx hm => ?_, fun i x hi hx hn => ?_⟩, least_ok h hT ht, fun i j hi hj => ?_, rfl⟩
  · rw [e1] at hi
    rw [e3] at hx
    rw [← hmv i x hi hx, dl_mv ht hi hx] at hm
    injection hm with hm
    injection hm with h1 h2
    have hb := h.part.rng i hi
    obtain ⟨_, hq, hqb⟩ := hd_in h hb
    have hs := sim_dl ht hq hi hx ((hsim _ _ hq hi).1 hqb)
    show some (mvO T (hd mem (bF bk i)) x, bF bk (dl T (hd mem (bF bk i)) x)) = some (o, bF bk t)
    rw [hs.1, h1, (hsim _ _ (dl_lt hT ht hq hx) (dl_lt hT ht hi hx)).2 hs.2, h2]
  · obtain ⟨o, t, e⟩ := hLt i x hi hx
    rw [hn i hi rfl] at e
    cases e
  · rw [final_sim hL hLt hi hj]
    rw [e1] at hi hj
    rw [hsim i j hi hj]
    constructor
    · exact sim_congr hT e1 e3 (fun i x hi hx => (hmv i x hi hx).symm) hi hj
    · exact sim_congr hL e1.symm e3.symm (fun i x hi hx => hmv i x (by omega) (by omega)) (by omega) (by omega)
end
section
variable {m : Mly}
theorem trim_sized (hS : Sized m) : Sized (build (wholeM m)) := by
  have hA := whole_ok hS
  have ht := whole_total m
  have h1 := hS.i1
  have hins : ((wholeM m).ins : Int) = m.ins := by show (m.ins.toNat : Int) = _; omega
  have hol := ord_len hA
  have hsz : (wholeM m).size = m.out.length := rfl
  have hpos := ord_pos (M := wholeM m)
  have hn2 := hS.n2
  have i2 := hS.i2
  have hx' : ∀ x : Nat, (x : Int) < (build (wholeM m)).ins → x < (wholeM m).ins := fun x hx => by
    have : (build (wholeM m)).ins = ((wholeM m).ins : Int) := rfl
    omega
  refine ⟨?_, ?_, hS.o1, hS.o2, by rw [(build_len _).1]; exact hpos, by rw [(build_len _).1]; omega, Int.le_refl 0, by rw [(build_len _).1]; show (0 : Int) < _; omega, by rw [(build_len _).1, (build_len _).2], fun q x hq hx => ?_, fun q x hq hx => ?_⟩
  · show 1 ≤ ((wholeM m).ins : Int); omega
  · show ((wholeM m).ins : Int) ≤ 64; omega
  · rw [(build_len _).1] at hq
    have hb := build_out hA ht hq (hx' x hx)
    have hqq := ord_lt hA _ (getD_mem _ 0 hq)
    have ho := hS.outr ((ord (wholeM m)).getD q 0) x hqq (by have := hx' x hx; omega)
    rw [hb.2]
    exact ⟨by rw [hb.1]; rfl, ho.2⟩
  · rw [(build_len _).1] at hq
    have hb := build_next hA ht hq (hx' x hx)
    have hqq := ord_lt hA _ (getD_mem _ 0 hq)
    have hin := ord_to hA (getD_mem _ 0 hq) (hx' x hx) (dl_mv ht hqq (hx' x hx))
    have hlt := List.idxOf_lt_length_of_mem hin
    rw [hb.2, (build_len _).1]
    exact ⟨by rw [hb.1]; rfl, by omega, by omega⟩
/-- What the program's Least builds is the quotient. -/
theorem least_is {bk wq : List Nat} {mem : List (List Nat)} {wts : List Bool} (hS : Sized m) (h : PSt (wholeM (build (wholeM m))) bk mem wq wts) (hsim : ∀ p q, p < (wholeM (build (wholeM m))).size → q < (wholeM (build (wholeM m))).size → (bF bk p = bF bk q ↔ Sim (wholeM (build (wholeM m))) (wholeM (build (wholeM m))) p q)) :
    IsQuo (posM (careM m (everyZ m true m.out.length))) (final (posM (careM m (everyZ m true m.out.length)))) (build (leastM (wholeM (build (wholeM m))) bk mem)) := by
  have hA := whole_ok hS
  have ht := whole_total m
  have hT := whole_ok (trim_sized hS)
  have hC := care_ok hS (everyZ m true m.out.length)
  have hoe := ord_every hS
  have hmv : ∀ i x, i < (ord (wholeM m)).length → x < (wholeM m).ins → (posM (careM m (everyZ m true m.out.length))).mv i x = (posM (wholeM m)).mv i x := fun i x hi hx => by
    have hq := ord_lt hA _ (getD_mem _ 0 hi)
    show ((careM m (everyZ m true m.out.length)).mv ((ord (careM m (everyZ m true m.out.length))).getD i 0) x).map (fun z => (z.1, (ord (careM m (everyZ m true m.out.length))).idxOf z.2)) = _
    rw [hoe, every_mv hq hx]; rfl
  have hs : (posM (careM m (everyZ m true m.out.length))).size = (ord (wholeM m)).length := by show (ord _).length = _; rw [hoe]
  have hts : (wholeM (build (wholeM m))).size = (ord (wholeM m)).length := (build_len _).1
  refine least_quo h hT (whole_total _) hsim (posM_ok hC) (fun i x hi hx => ?_) (by rw [hs, hts]) rfl (by show m.ins.toNat = ((wholeM m).ins : Int).toNat; rfl) rfl (fun i x hi hx => ?_)
  · rw [hs] at hi
    rw [hmv i x hi hx]
    have hq := ord_lt hA _ (getD_mem _ 0 hi)
    have e : (posM (wholeM m)).mv i x = some (mvO (wholeM m) ((ord (wholeM m)).getD i 0) x, (ord (wholeM m)).idxOf (dl (wholeM m) ((ord (wholeM m)).getD i 0) x)) := by
      show ((wholeM m).mv ((ord (wholeM m)).getD i 0) x).map (fun z => (z.1, (ord (wholeM m)).idxOf z.2)) = _
      rw [dl_mv ht hq hx]; rfl
    exact ⟨_, _, e⟩
  · rw [hts] at hi
    rw [hmv i x hi hx]
    exact trim_mv hA ht hi hx
end
end Go.Proofs.Ytcmhginhfhiolaa
set_option linter.unusedVariables false
set_option linter.unusedSimpArgs false
namespace Go.Proofs.Ytcmhginhfhiolaa
open Go.RowKit
attribute [local go_sem] cell_alloc_old

/-- What the function of Least needs: all of it lies below block B. -/
structure LsI (t : Mly) (bk : List Nat) (mem : List (List Nat)) (pv tb pb B nw nk : Nat) (Q : PTA) (Ao : Option Addr) (co : Nat) (An : Option Addr) (cn : Nat) (W : World) : Prop where
  var : W.heap[pv]? = some (.cells #[.pointer (some ⟨pb, 0, none⟩)] 61 (0, 0))
  pt : W.heap[pb]? = some (.cells (ptCells Q bk.length mem.length nw nk) 65 (0, 0))
  mly : WhI t tb B Ao co An cn W
  blk : RdI W (fun b => b < B) Q.ab Q.cb (natZ bk)
  mem : RdII W (fun b => b < B) Q.am Q.cm (natR mem)
theorem LsI.keep {t : Mly} {bk : List Nat} {mem : List (List Nat)} {pv tb pb B nw nk : Nat} {Q : PTA} {Ao An : Option Addr} {co cn : Nat} {W W' : World} (h : LsI t bk mem pv tb pb B nw nk Q Ao co An cn W) (h1 : pv < B) (h2 : tb < B) (h3 : pb < B) (hb : Below B W W') : LsI t bk mem pv tb pb B nw nk Q Ao co An cn W' :=
  ⟨(hb.block _ h1).trans h.var, (hb.block _ h3).trans h.pt, h.mly.keep h2 hb, h.blk.keep (Keeps.of_below hb fun _ h => h), h.mem.keep (Keeps.of_below hb fun _ h => h)⟩
theorem LsI.of {B : Nat} {t : Mly} {bk wq : List Nat} {mem : List (List Nat)} {vm : List Value} {wts : List Bool} {pv tb pb : Nat} {Q : PTA} {Ao An : Option Addr} {co cn : Nat} {W : World} (hv : W.heap[pv]? = some (.cells #[.pointer (some ⟨pb, 0, none⟩)] 61 (0, 0))) (hm : WhI t tb W.heap.size Ao co An cn W)
    (hp : PtB B W pb Q (natZ bk) vm (natZ wq) wts) (hvl : vm.length = mem.length) (hr : RowsX Q.hot W B (natR mem) vm) (hb : bk.length ≤ 3000) (hml : mem.length ≤ 3000) : LsI t bk mem pv tb pb W.heap.size wq.length wts.length Q Ao co An cn W := by
  have hbo := hp.bo
  have hmo := hp.mo
  have hbox := hp.box
  rw [natZ_len] at hbo
  rw [natZ_len, natZ_len, hvl] at hbox
  refine ⟨hv, hbox, hm, ?_, ⟨vm, ?_, fun i hi => ?_⟩⟩
  · unfold RdI
    rw [natZ_len]
    exact (Rd.own (D := fun _ => True) hbo (by omega) (fun _ _ => trivial)).mono fun b _ hl => hl
  · rw [natR_len, ← hvl]
    exact (Rd.own (D := fun _ => True) hmo (by omega) (fun _ _ => trivial)).mono fun b _ hl => hl
  · obtain ⟨A, c, h1, h2⟩ := hr i hi
    exact ⟨A, c, h1, h2.mono fun b _ hl => hl⟩

set_option maxRecDepth 100000 in
set_option maxHeartbeats 4000000 in
theorem least1_mv (t : Mly) (ht : Sized t) (bk wq : List Nat) (mem : List (List Nat)) (wts : List Bool) (hst : PSt (wholeM t) bk mem wq wts) (pv tb pb B nw nk : Nat) (Q : PTA) (Ao : Option Addr) (co : Nat) (An : Option Addr) (cn : Nat) (h1 : pv < B) (h2 : tb < B) (h3 : pb < B) :
    MvF 40 #[.pointer (some ⟨pv, 0, none⟩), .pointer (some ⟨tb, 0, none⟩)] (leastM (wholeM t) bk mem) (LsI t bk mem pv tb pb B nw nk Q Ao co An cn) (fun _ => False) B := by
  refine ⟨enters_of Try.func40 (by kernel_rfl) rfl, fun _ h => h.elim, fun W W' h hB hb => h.keep h1 h2 h3 hb, ?_⟩
  intro W c x hW hB hc hx
  have HW := hid hW
  have hc' : c < mem.length := hc
  have hx' : x < t.ins.toNat := hx
  have hxi : (x : Int) < t.ins := by omega
  obtain ⟨hpos, hq, hqb⟩ := hd_in hst hc'
  have hq' : hd mem c < t.out.length := hq
  have hqn : hd mem c < t.next.length := by rw [ht.nn]; exact hq'
  have v0 := block_cell hW.var (i := 0) rfl
  have p0 : W.cell? ⟨pb, 0, none⟩ = some (.slice Q.ab bk.length Q.cb) := block_cell hW.pt (i := 0) rfl
  have p1 : W.cell? ⟨pb, 1, none⟩ = some (.slice Q.am mem.length Q.cm) := block_cell hW.pt (i := 1) rfl
  have x3 := block_cell hW.mly.box (i := 3) rfl
  have x4 := block_cell hW.mly.box (i := 4) rfl
  obtain ⟨bm, om, Am, cm, hAm, _, hrm, hcm⟩ := hW.mem.natr hc'
  obtain ⟨br, or, q, hAr, _, HQ, _, hcr⟩ := hrm.natc hpos
  have hqe : hd mem c = q := HQ.out
  rw [hAm] at p1
  subst hAr
  rw [hqe] at hq' hqn
  obtain ⟨b1, o1, A1, c1, r1, rfl, _, _, HR1, hr1, hc1⟩ := hW.mly.out.get hq'
  obtain ⟨b2, o2, A2, c2, r2, rfl, _, _, HR2, hr2, hc2⟩ := hW.mly.next.get hqn
  have e1 := ht.outr q x hq' hxi
  have e2 := ht.nextr q x hq' hxi
  rw [HR1.out] at e1
  rw [HR2.out] at e2
  obtain ⟨b3, o3, y, rfl, _, _, HY, hc3⟩ := hr1.get (show x < r1.length by omega)
  obtain ⟨b4, o4, z, rfl, _, _, HZ, hc4⟩ := hr2.get (show x < r2.length by omega)
  rw [HZ.out] at e2
  obtain ⟨s, rfl⟩ : ∃ s : Nat, z = (s : Int) := ⟨z.toNat, by omega⟩
  have hsl : s < bk.length := by have h5 := hst.len; have h6 : (wholeM t).size = t.out.length := rfl; omega
  obtain ⟨b5, o5, b, hA5, _, HB, _, hc5⟩ := hW.blk.natc hsl
  rw [hA5] at p0
  have hres := mvT_yes (M := leastM (wholeM t) bk mem) (q := c) (x := x) (o := y) (t := b) (by
    show some (mvO (wholeM t) (hd mem c) x, bF bk (dl (wholeM t) (hd mem c) x)) = _
    rw [hqe]
    have m1 : mvO (wholeM t) q x = y := by show (t.out.getD q []).getD x 0 = y; rw [HR1.out, HY.out]
    have m2 : dl (wholeM t) q x = s := by show ((t.next.getD q []).getD x 0).toNat = s; rw [HR2.out, HZ.out]; rfl
    rw [m1, m2]
    have m3 : bF bk s = b := HB.out
    rw [m3])
  rw [hres.1, hres.2]
  have hci : (c : Int) < mem.length := by omega
  have hqi1 : (q : Int) < t.out.length := by omega
  have hqi2 : (q : Int) < t.next.length := by omega
  have hxi1 : (x : Int) < r1.length := by omega
  have hxi2 : (x : Int) < r2.length := by omega
  have hsi : (s : Int) < bk.length := by omega
  have hp0 : (0 : Int) < (mem.getD c []).length := by omega
  obtain ⟨n, hn⟩ : ∃ n, n = (mem.getD c []).length := ⟨_, rfl⟩
  rw [← hn] at hcm hpos hp0
  have l1 := hW.mly.out.len.1
  have l2 := hW.mly.next.len.1
  have l3 := hr1.len.1
  have l4 := hr2.len.1
  rw [Nat.add_zero] at hcr
  clear hst ht hW hx hx' hq hqb hqe e1 e2 hr1 hr2 hrm hres hAm hA5 hn hc
  go_enter Try.func40, Try.ntmps40
  go_wp2_with fail
  go_quiet (fail)
  go_wp2_with fail
  go_ret2
  exact ⟨rfl, HW.out.keep h1 h2 h3 ((Drawn.n W nq).below B), (Chg.refl _ W).drewN _⟩
end Go.Proofs.Ytcmhginhfhiolaa
set_option linter.unusedVariables false
set_option linter.unusedSimpArgs false
namespace Go.Proofs.Ytcmhginhfhiolaa
open Go.RowKit Go.Shelf
attribute [local go_sem] cell_alloc_old

set_option maxRecDepth 100000 in
set_option maxHeartbeats 8000000 in
theorem least_any {D : Dom} (v : Value) (m : Mly) (w : World) (h : RdM w D v m) :
    Calls Try.prog 18 #[v] w fun e w' => Gives (LooseIs m (everyZ m true m.out.length) (mealyB m)) w e w' := by
  have HV := hid h.old
  obtain ⟨Ao, co, An, cn, rfl, ho, hn⟩ := h
  clear ho hn
  have hmf : ∀ (fn : Fn) (first cap : Array Value) (w : World), (Instr.makeFunc fn first cap).run Try.prog w = .ok (.func fn first cap) w := fun _ _ _ _ => rfl
  go_enter Try.func18, Try.ntmps18
  go_upto_region 1 with (fail)
  refine wp_gen fun W1 hW1 => ?_
  have hb1 : Below w.heap.size w W1 := by rw [hW1]; go_grown
  have hx1 : W1.heap[w.heap.size]? = some (.cells #[.int .i64 m.ins, .int .i64 m.outs, .int .i64 m.start, .slice Ao m.out.length co, .slice An m.next.length cn] 24 (0, 0)) := by
    rw [hW1]; (repeat (first | (refine at_new _ _ _ ?_; (simp only [World.size_alloc]; done)) | (refine (at_old _ _ _ ?_).trans ?_; (simp only [World.size_alloc]; omega))))
  have hr1 : W1.heap[w.heap.size + 1]? = some (.cells #[.int .i64 0, .int .i64 0, .int .i64 0, .slice none 0 0, .slice none 0 0] 24 (0, 0)) := by
    rw [hW1]; (repeat (first | (refine at_new _ _ _ ?_; (simp only [World.size_alloc]; done)) | (refine (at_old _ _ _ ?_).trans ?_; (simp only [World.size_alloc]; omega))))
  have HB1 := hid hb1
  have HR1 := hid hr1
  have HX1 := hid hx1
  have x0 := block_cell hx1 (i := 0) rfl
  have x1 := block_cell hx1 (i := 1) rfl
  have x2 := block_cell hx1 (i := 2) rfl
  have x3 := block_cell hx1 (i := 3) rfl
  have x4 := block_cell hx1 (i := 4) rfl
  clear hW1 hb1 hx1 hr1
  go_wp2_with fail
  refine (mvalid_any _ m W1 (HV.out.keep (Keeps.of_below HB1.out (fun _ h => h)))).mono ?_
  rintro e w2 ⟨rfl, hb2⟩
  have HB2 := hid (HB1.out.trans (hb2.mono HB1.out.size))
  have HR2 := hid ((hb2.block _ (lt_of_block HR1.out)).trans HR1.out)
  have HX2 := hid ((hb2.block _ (lt_of_block HX1.out)).trans HX1.out)
  have x0 := block_cell HX2.out (i := 0) rfl
  have x1 := block_cell HX2.out (i := 1) rfl
  have x2 := block_cell HX2.out (i := 2) rfl
  have x3 := block_cell HX2.out (i := 3) rfl
  have x4 := block_cell HX2.out (i := 4) rfl
  have hrb2 := lt_of_block HR2.out
  clear hb2
  cases hm : mealyB m
  · have q0 := block_cell HR2.out (i := 0) rfl
    have q1 := block_cell HR2.out (i := 1) rfl
    have q2 := block_cell HR2.out (i := 2) rfl
    have q3 := block_cell HR2.out (i := 3) rfl
    have q4 := block_cell HR2.out (i := 4) rfl
    have z0 := block_free HR2.out (i := 0)
    have z1 := block_free HR2.out (i := 1)
    have z2 := block_free HR2.out (i := 2)
    have z3 := block_free HR2.out (i := 3)
    have z4 := block_free HR2.out (i := 4)
    have HZ := hid (show LooseIs m (everyZ m true m.out.length) (mealyB m) zeroMly by rw [hm]; exact ⟨(fun h => by cases h), fun _ => rfl⟩)
    clear hm
    go_wp2_with fail
    refine bodyPost_gen fun W2 hW2 => ?_
    have hfin := set5_rd (m := zeroMly) (B := w2.heap.size) HR2.out (w := w) (Chg.of_new HB2.out) (by omega) (lt_of_block HR2.out) (HB2.out.size) ⟨none, 0, none, 0, rfl, RdII.nil _ _ _ (by omega), RdII.nil _ _ _ (by omega)⟩ hW2
    obtain ⟨⟨p0, p1, p2, p3, p4⟩, f1, f2⟩ := hfin
    have p0' : W2.cell? ⟨w.heap.size + 1, 0, none⟩ = some (.int .i64 0) := p0
    have p1' : W2.cell? ⟨w.heap.size + 1, 1, none⟩ = some (.int .i64 0) := p1
    have p2' : W2.cell? ⟨w.heap.size + 1, 2, none⟩ = some (.int .i64 0) := p2
    have p3' : W2.cell? ⟨w.heap.size + 1, 3, none⟩ = some (.slice none 0 0) := p3
    have p4' : W2.cell? ⟨w.heap.size + 1, 4, none⟩ = some (.slice none 0 0) := p4
    have F1 := hid f1
    have F2 := hid f2
    clear hW2 p0 p1 p2 p3 p4 f1 f2
    exact bodyPost_ret (v := .agg #[.int .i64 0, .int .i64 0, .int .i64 0, .slice none 0 0, .slice none 0 0]) (by simp [results, Try.results18, go_sem, p0', p1', p2', p3', p4']) rfl ⟨_, zeroMly, rfl, F1.out, F2.out, HZ.out⟩
  · have hz : trimZ m = build (wholeM m) := by unfold trimZ; rw [hm]; rfl
    have hSz := sized_of hm
    have HZ := hid hz
    have HS := hid hSz
    have HMB := hid hm
    clear hm hz hSz
    go_wp2_with fail
    refine (trim_any _ m w2 (HV.out.keep (Keeps.of_below HB2.out (fun _ h => h)))).mono ?_
    rintro e w3 ⟨u, rfl, hb3, hr3⟩
    rw [HZ.out] at hr3
    obtain ⟨t, ht⟩ : ∃ t, t = build (wholeM m) := ⟨_, rfl⟩
    rw [← ht] at hr3
    have HT := hid ht
    have HTS := hid (show Sized t by rw [ht]; exact trim_sized HS.out)
    have HB3 := hid (HB2.out.trans (hb3.mono HB2.out.size))
    have HR3 := hid ((hb3.block _ (lt_of_block HR2.out)).trans HR2.out)
    have hs3 := hb3.size
    obtain ⟨Bo, bo, Bn, bn, rfl, ho3, hn3⟩ := hr3
    have HO3 := hid ho3
    have HN3 := hid hn3
    clear ht hb3 ho3 hn3 x0 x1 x2 x3 x4
    go_upto_region 4 with (fail)
    refine wp_gen fun w4 hw4 => ?_
    have hw4' : w4 = w3.alloc (.cells #[.int .i64 t.ins, .int .i64 t.outs, .int .i64 t.start, .slice Bo t.out.length bo, .slice Bn t.next.length bn] 24) := hw4
    clear hw4
    have hb4 : Below w3.heap.size w3 w4 := by rw [hw4']; go_grown
    have ht4 : w4.heap[w3.heap.size]? = some (.cells #[.int .i64 t.ins, .int .i64 t.outs, .int .i64 t.start, .slice Bo t.out.length bo, .slice Bn t.next.length bn] 24 (0, 0)) := by rw [hw4']; exact heap_alloc_new _ _
    have y0 := block_cell ht4 (i := 0) rfl
    have y1 := block_cell ht4 (i := 1) rfl
    have y2 := block_cell ht4 (i := 2) rfl
    have y3 := block_cell ht4 (i := 3) rfl
    have y4 := block_cell ht4 (i := 4) rfl
    have hs4 := hb4.size
    have hs34 : w3.heap.size < w4.heap.size := lt_of_block ht4
    have hrd4 : RdM w4 (fun b => b < w4.heap.size) (.agg #[.int .i64 t.ins, .int .i64 t.outs, .int .i64 t.start, .slice Bo t.out.length bo, .slice Bn t.next.length bn]) t :=
      ⟨Bo, bo, Bn, bn, rfl, (HO3.out.old.keep (Keeps.of_below hb4 fun _ h => h)).mono fun b h _ => by omega, (HN3.out.old.keep (Keeps.of_below hb4 fun _ h => h)).mono fun b h _ => by omega⟩
    have HT4 := hid ht4
    have HRD4 := hid hrd4
    have HR4 := hid ((hb4.block _ (lt_of_block HR3.out)).trans HR3.out)
    have HB4 := hid (HB3.out.trans (hb4.mono HB3.out.size))
    clear hw4' hb4 ht4 hrd4
    go_wp2_with fail
    refine (divide_any _ t w4 HRD4.out HTS.out).mono ?_
    rintro e w5 ⟨B5, pb, Q, bk, mem, vm, wq, wts, rfl, hB5, hp5, hvl5, hr5, hst5, hsim5, hb5, hpb5⟩
    have HP5 := hid hp5
    have HVL5 := hid hvl5
    have HRW5 := hid hr5
    have HST5 := hid hst5
    have HSIM5 := hid hsim5
    have HB5 := hid (HB4.out.trans (hb5.mono HB4.out.size))
    have HR5 := hid ((hb5.block _ (lt_of_block HR4.out)).trans HR4.out)
    have HT5 := hid ((hb5.block _ (lt_of_block HT4.out)).trans HT4.out)
    have HRD5 := hid (HRD4.out.keep (Keeps.of_below hb5 fun _ h => h))
    have hs5 := hb5.size
    clear hp5 hvl5 hr5 hst5 hsim5 hb5 y0 y1 y2 y3 y4
    go_upto_region 5 with (fail)
    refine wp_gen fun w6 hw6 => ?_
    have hw6' : w6 = w5.alloc (.cells #[.pointer (some ⟨pb, 0, none⟩)] 61) := hw6
    clear hw6
    have hb6 : Below w5.heap.size w5 w6 := by rw [hw6']; go_grown
    have hv6 : w6.heap[w5.heap.size]? = some (.cells #[.pointer (some ⟨pb, 0, none⟩)] 61 (0, 0)) := by rw [hw6']; exact heap_alloc_new _ _
    have hs6 := hb6.size
    have HB6 := hid (HB5.out.trans (hb6.mono HB5.out.size))
    have ht6 := (hb6.block _ (lt_of_block HT5.out)).trans HT5.out
    have hr6 := (hb6.block _ (lt_of_block HR5.out)).trans HR5.out
    have hbkl : bk.length ≤ 3000 := by have h1 := HST5.out.len; have h2 : (wholeM t).size = t.out.length := rfl; have := HTS.out.n2; omega
    have hmll : mem.length ≤ 3000 := by have h1 := HST5.out.part.le; have h2 : (wholeM t).size = t.out.length := rfl; have := HTS.out.n2; omega
    have hrd6 := HRD5.out.keep (Keeps.of_below hb6 fun b h => by omega)
    have hwh6 : WhI t w3.heap.size w6.heap.size Bo bo Bn bn w6 := by
      obtain ⟨Ao', co', An', cn', e, h1, h2⟩ := hrd6
      injection e with e
      simp only [Array.mk.injEq, List.cons.injEq, Value.slice.injEq] at e
      obtain ⟨-, -, -, ⟨e1, -, e2⟩, ⟨e3, -, e4⟩, -⟩ := e
      subst e1 e2 e3 e4
      exact ⟨ht6, h1.mono fun b h _ => by omega, h2.mono fun b h _ => by omega⟩
    have hp6 := HP5.out.later hb6
    have hls6 := LsI.of hv6 hwh6 hp6 HVL5.out (HP5.out.rows HRW5.out (PtS.of_below pb Q hb6)) hbkl hmll
    have hMok : (leastM (wholeM t) bk mem).Ok := least_ok HST5.out (whole_ok HTS.out) (whole_total t)
    have hquo : IsQuo (posM (careM m (everyZ m true m.out.length))) (final (posM (careM m (everyZ m true m.out.length)))) (build (leastM (wholeM t) bk mem)) := by
      rw [HT.out]
      exact least_is HS.out (by rw [← HT.out]; exact HST5.out) (by rw [← HT.out]; exact HSIM5.out)
    have HQUO := hid hquo
    have HLS6 := hid hls6
    have HMV6 := hid (least1_mv t HTS.out bk wq mem wts HST5.out w5.heap.size w3.heap.size pb w6.heap.size wq.length wts.length Q Bo bo Bn bn (lt_of_block hv6) (lt_of_block ht6) (lt_of_block hp6.box))
    have HR6 := hid hr6
    have v0 := block_cell hv6 (i := 0) rfl
    have y0 := block_cell ht6 (i := 0) rfl
    have y1 := block_cell ht6 (i := 1) rfl
    have y2 := block_cell ht6 (i := 2) rfl
    obtain ⟨c0, c1, -, -, -, -, -, -, -⟩ := hp6.cells
    rw [natZ_len] at c0
    rw [HVL5.out] at c1
    have hsl : t.start.toNat < bk.length := by have h1 := HST5.out.len; have h2 : (wholeM t).size = t.out.length := rfl; have h3 := HTS.out.s0; have h4 := HTS.out.s1; omega
    obtain ⟨st, hst⟩ : ∃ s : Nat, t.start = (s : Int) := ⟨t.start.toNat, by have := HTS.out.s0; omega⟩
    have hstl : st < bk.length := by omega
    rw [hst] at y2
    obtain ⟨g, hg, hgB, hgl, hcells, -⟩ := own_ptr hp6.bo (by rw [natZ_len]; omega)
    rw [hg] at c0
    have gc := (hcells st (.int .i64 ((bF bk st : Nat) : Int)) (by unfold bF natZ; simp [List.getD, hstl])).1
    have hsti : (st : Int) < bk.length := by omega
    have hmach : machV 40 #[.pointer (some ⟨w5.heap.size, 0, none⟩), .pointer (some ⟨w3.heap.size, 0, none⟩)] (leastM (wholeM t) bk mem) = .agg #[.int .i64 mem.length, .int .i64 ((bF bk st : Nat) : Int), .int .i64 t.ins, .int .i64 t.outs, .func (.func 40) #[] #[.pointer (some ⟨w5.heap.size, 0, none⟩), .pointer (some ⟨w3.heap.size, 0, none⟩)]] := by
      have e1 : (leastM (wholeM t) bk mem).start = bF bk st := by show bF bk t.start.toNat = _; rw [hst]; rfl
      have e2 : ((leastM (wholeM t) bk mem).ins : Int) = t.ins := by show (t.ins.toNat : Int) = _; have := HTS.out.i1; omega
      unfold machV
      rw [e1, e2]; rfl
    have HMA := hid hmach
    have HMOK := hid hMok
    have hMs : (leastM (wholeM t) bk mem).size ≤ 10000 := by show mem.length ≤ 10000; omega
    have hMi : (leastM (wholeM t) bk mem).ins ≤ 64 := by show t.ins.toNat ≤ 64; have := HTS.out.i2; omega
    clear hw6' hb6 hv6 ht6 hr6 hrd6 hwh6 hp6 hls6 hMok hquo hst hg hcells hmach hsl
    go_upto_region 6 with (fail)
    go_still_tail 19, (by kernel_rfl)
    simp only [World.drew_eq]
    have hbd : Below w6.heap.size w6 w6.drew := (Below.refl _ _).drew
    have hcall := build_full _ _ (leastM (wholeM t) bk mem) _ _ w6.heap.size HMV6.out HMOK.out hMs hMi w6.drew (HLS6.out.keep (by have := HLS6.out.var; exact lt_of_block this) (by have := HLS6.out.mly.box; exact lt_of_block this) (by have := HLS6.out.pt; exact lt_of_block this) hbd) (Nat.le_refl _)
    rw [HMA.out] at hcall
    have HCALL := hid hcall
    clear hcall gc c0 c1 v0 y0 y1 y2
    go_wp2_with fail
    refine HCALL.out.mono ?_
    rintro e w7 ⟨u, rfl, -, hc7, hr7⟩
    obtain ⟨Co, co7, Cn, cn7, rfl, ho7, hn7⟩ := hr7
    have hc7' : Chg (fun _ => False) w6 w7 := (Chg.of_new hbd).trans hc7
    have HR7 := hid (hc7'.box HR6.out (fun h => h))
    have HC7 := hid ((Chg.of_new HB6.out).trans hc7')
    obtain ⟨M7, hM7⟩ : ∃ X, X = build (leastM (wholeM t) bk mem) := ⟨_, rfl⟩
    rw [← hM7] at ho7 hn7 ⊢
    have HM7 := hid hM7
    have HO7 := hid ho7
    have HN7 := hid hn7
    have q0 := block_cell HR7.out (i := 0) rfl
    have q1 := block_cell HR7.out (i := 1) rfl
    have q2 := block_cell HR7.out (i := 2) rfl
    have q3 := block_cell HR7.out (i := 3) rfl
    have q4 := block_cell HR7.out (i := 4) rfl
    have z0 := block_free HR7.out (i := 0)
    have z1 := block_free HR7.out (i := 1)
    have z2 := block_free HR7.out (i := 2)
    have z3 := block_free HR7.out (i := 3)
    have z4 := block_free HR7.out (i := 4)
    have hrl : w.heap.size + 1 < w6.heap.size := lt_of_block HR6.out
    clear hc7 hc7' ho7 hn7 hM7 hbd
    go_wp2_with fail
    refine bodyPost_gen fun W2 hW2 => ?_
    have hfin := set5_rd (m := M7) (B := w6.heap.size) HR7.out (w := w) HC7.out (by omega) hrl (by omega) ⟨Co, co7, Cn, cn7, rfl, HO7.out, HN7.out⟩ hW2
    obtain ⟨⟨p0, p1, p2, p3, p4⟩, f1, f2⟩ := hfin
    have F1 := hid f1
    have F2 := hid f2
    clear hW2 q0 q1 q2 q3 q4 z0 z1 z2 z3 z4 f1 f2
    exact bodyPost_ret (v := .agg #[.int .i64 M7.ins, .int .i64 M7.outs, .int .i64 M7.start, .slice Co M7.out.length co7, .slice Cn M7.next.length cn7]) (by simp [results, Try.results18, go_sem, p0, p1, p2, p3, p4]) rfl
      ⟨_, M7, rfl, F1.out, F2.out, (fun _ => by rw [HM7.out]; exact HQUO.out), fun h => by rw [HMB.out] at h; cases h⟩
end Go.Proofs.Ytcmhginhfhiolaa
