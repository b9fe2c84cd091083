/-
  Walk of the law CircuitGates.
-/
import Derived.Test.YtfabdpnjjondaaaW1
import Derived.Test.YtfabdpnjjondaaaM1
set_option linter.unusedVariables false
set_option linter.unusedSimpArgs false
namespace Go.Proofs.Ytfabdpnjjondaaa
open Go.RowKit
attribute [local go_sem] cell_alloc_old

theorem gate_eql (k a b k' a' b' : Int) (w : World) : (binOp .eql 45 (.agg #[.int .i64 k, .int .i64 a, .int .i64 b]) (.agg #[.int .i64 k', .int .i64 a', .int .i64 b'])).run Try.prog w = .ok (.bool (decide ((⟨k, a, b⟩ : Gt) = ⟨k', a', b'⟩))) w := by
  have := gate_equal w ⟨k, a, b⟩ ⟨k', a', b'⟩
  unfold gval at this
  simp only [binOp]
  simp [this]

theorem own_base {w : World} {base base' n size : Nat} {e : TypeId} {v : Value} {xs : List Value} (h : w.ownsRow base e size v n xs) (hb : base' ≤ base) : w.ownsRow base' e size v n xs := by
  refine ⟨h.1, ?_⟩
  rcases h.2 with h0 | ⟨g, cap, cur, hv, h1, h3⟩
  · exact .inl h0
  · exact .inr ⟨g, cap, cur, hv, Nat.le_trans hb h1, h3⟩
theorem own_at {w : World} {base n size c : Nat} {e : TypeId} {A : Option Addr} {xs : List Value} (h : w.ownsRow base e size (.slice A n c) n xs) (hn : 0 < n) : ∃ b, A = some ⟨b, 0, none⟩ ∧ b < w.heap.size ∧ base ≤ b ∧ n ≤ c ∧ c ≤ 9223372036854775807 := by
  rcases h.2 with ⟨hv, h0⟩ | ⟨g, cap, cur, hv, h1, hh, h2, h3, h4⟩
  · omega
  · injection hv with e1 e2 e3
    subst e3
    exact ⟨g, e1, lt_of_block hh, h1, h2, h3⟩
/-- The circuit d that moved has made, in block bd, while its numbers are turned to 0; s8: where the first run's outputs begin. -/
structure GL (w wr : World) (bd bx s8 : Nat) (inb : Int) (g : Gt) (gr : GS) (Ag : Option Addr) (cg : Nat) (lr : List Int) (Al : Option Addr) (cl : Nat) (outr : List Int) (Ao : Option Addr) (co : Nat) (out : List Int) (B : Option Addr) (cb : Nat) : Prop where
  below : Below w.heap.size w wr
  dc : wr.heap[bd]? = some (.cells #[.int .i64 inb, .slice Ag gr.length cg, .slice Al lr.length cl, .slice Ao outr.length co] 25 (0, 0))
  gx : wr.heap[bx]? = some (.cells #[.int .i64 g.k, .int .i64 g.a, .int .i64 g.b] 45 (0, 0))
  og : wr.ownsRow w.heap.size 45 3 (.slice Ag gr.length cg) gr.length (gr.flatMap gcells)
  ol : wr.ownsRow w.heap.size 3 1 (.slice Al lr.length cl) lr.length (lr.map (.int .i64))
  oo : wr.ownsRow w.heap.size 3 1 (.slice Ao outr.length co) outr.length (outr.map (.int .i64))
  dis : ∀ b, some b = (Value.slice Al lr.length cl).ownBlock → some b ≠ (Value.slice Ao outr.length co).ownBlock
  outs : RdI wr (fun b => s8 ≤ b) B cb out
  ll : ∀ b, some b = (Value.slice Al lr.length cl).ownBlock → b < s8
  lo : ∀ b, some b = (Value.slice Ao outr.length co).ownBlock → b < s8
section
variable {w wr : World} {bd bx s8 : Nat} {inb : Int} {g : Gt} {gr : GS} {Ag : Option Addr} {cg : Nat} {lr : List Int} {Al : Option Addr} {cl : Nat} {outr : List Int} {Ao : Option Addr} {co : Nat} {out : List Int} {B : Option Addr} {cb : Nat}
theorem GL.after {wr' : World} (h : GL w wr bd bx s8 inb g gr Ag cg lr Al cl outr Ao co out B cb) (hb : Below wr.heap.size wr wr') : GL w wr' bd bx s8 inb g gr Ag cg lr Al cl outr Ao co out B cb :=
  ⟨h.below.trans (hb.mono h.below.size), (hb.block _ (lt_of_block h.dc)).trans h.dc, (hb.block _ (lt_of_block h.gx)).trans h.gx, own_below h.og hb, own_below h.ol hb, own_below h.oo hb, h.dis, h.outs.keep ((Keeps.refl _ _).below hb), h.ll, h.lo⟩
theorem GL.seto (h : GL w wr bd bx s8 inb g gr Ag cg lr Al cl outr Ao co out B cb) {k b : Nat} (hA : Ao = some ⟨b, 0, none⟩) (x : Int) : GL w (wr.setCell ⟨b, k, none⟩ (.int .i64 x)) bd bx s8 inb g gr Ag cg lr Al cl (outr.set k x) Ao co out B cb := by
  subst hA
  have hst := h.oo.stored k (.int .i64 x)
  have hl : (outr.set k x).length = outr.length := by simp
  have hbb : some b = (Value.slice (some ⟨b, 0, none⟩) outr.length co).ownBlock := rfl
  have hbw := (h.oo.lt b hbb.symm).1
  have key : ∀ j, j ≠ b → (wr.setCell ⟨b, k, none⟩ (.int .i64 x)).heap[j]? = wr.heap[j]? := fun j hj => Below.heap_setCell _ _ _ _ hj
  refine ⟨h.below.setCell (p := ⟨b, k, none⟩) hbw _, ?_, ?_, own_agree h.og fun j e => key j (fun x => own_apart h.og h.oo (by decide) e (by rw [x]; exact hbb)), own_agree h.ol fun j e => key j (fun x => h.dis j e (by rw [x]; exact hbb)), ?_, ?_, ?_, h.ll, ?_⟩
  · rw [hl, key _ (fun x => own_ne h.oo h.dc (by decide) (by rw [x]; rfl))]; exact h.dc
  · rw [key _ (fun x => own_ne h.oo h.gx (by decide) (by rw [x]; rfl))]; exact h.gx
  · rw [hl, List.map_set]; exact hst.1
  · rw [hl]; exact h.dis
  · exact h.outs.keep ((Keeps.refl _ _).set (p := ⟨b, k, none⟩) (by have := h.lo b hbb; show ¬ s8 ≤ b; omega) _)
  · rw [hl]; exact h.lo
theorem GL.setl (h : GL w wr bd bx s8 inb g gr Ag cg lr Al cl outr Ao co out B cb) {k b : Nat} (hA : Al = some ⟨b, 0, none⟩) (x : Int) : GL w (wr.setCell ⟨b, k, none⟩ (.int .i64 x)) bd bx s8 inb g gr Ag cg (lr.set k x) Al cl outr Ao co out B cb := by
  subst hA
  have hst := h.ol.stored k (.int .i64 x)
  have hl : (lr.set k x).length = lr.length := by simp
  have hbb : some b = (Value.slice (some ⟨b, 0, none⟩) lr.length cl).ownBlock := rfl
  have hbw := (h.ol.lt b hbb.symm).1
  have key : ∀ j, j ≠ b → (wr.setCell ⟨b, k, none⟩ (.int .i64 x)).heap[j]? = wr.heap[j]? := fun j hj => Below.heap_setCell _ _ _ _ hj
  refine ⟨h.below.setCell (p := ⟨b, k, none⟩) hbw _, ?_, ?_, own_agree h.og fun j e => key j (fun x => own_apart h.og h.ol (by decide) e (by rw [x]; exact hbb)), ?_, own_agree h.oo fun j e => key j (fun x => h.dis b hbb (by rw [← x]; exact e)), ?_, ?_, ?_, h.lo⟩
  · rw [hl, key _ (fun x => own_ne h.ol h.dc (by decide) (by rw [x]; rfl))]; exact h.dc
  · rw [key _ (fun x => own_ne h.ol h.gx (by decide) (by rw [x]; rfl))]; exact h.gx
  · rw [hl, List.map_set]; exact hst.1
  · rw [hl]; exact h.dis
  · exact h.outs.keep ((Keeps.refl _ _).set (p := ⟨b, k, none⟩) (by have := h.ll b hbb; show ¬ s8 ≤ b; omega) _)
  · rw [hl]; exact h.ll
end

set_option maxRecDepth 100000 in
set_option maxHeartbeats 8000000 in
theorem law4_any {D E : Dom} (w : World) (v : Value) (c : Cir) (A : Option Addr) (ca : Nat) (ins : List Int) (which : Int) (h : RdC w D v c) (hi : RdI w E A ca ins) (k0 : 0 ≤ which) (k1 : which ≤ 255) :
    Calls Try.prog 6 #[v, .slice A ins.length ca, .int .u8 which] w fun e w' => e = .returned (.bool true) ∧ Below w.heap.size w w' := by
  have HV := hid h.old
  have HI := hid hi.old
  have hni := hi.len.1
  have hnc := hi.len.2
  obtain ⟨Ag, cg, Al, cl, Ao, co, rfl, hg, hl, ho⟩ := h
  have HG := hid hg.old
  have hgl1 := hg.len.1
  clear hg hl ho hi
  have hgeq := gate_eql
  have HGEQ := hid hgeq
  clear hgeq
  go_enter Try.func6, Try.ntmps6
  go_wp2_with fail
  refine (head_any _).mono ?_
  rintro e w1 ⟨rfl, hb1⟩
  have hs : At4 w w.heap.size (.int .i64 c.ib) (.slice Ag c.gates.length cg) (.slice Al c.lat.length cl) (.slice Ao c.outs.length co) w1 := by
    refine At4.below (w' := w.alloc (.cells #[.int .i64 c.ib, .slice Ag c.gates.length cg, .slice Al c.lat.length cl, .slice Ao c.outs.length co] 25)) ⟨by go_grown, ?_, ?_, ?_, ?_⟩ hb1
    all_goals exact cell_new _ _ _ _ _ _ rfl rfl
  have HS := hid hs
  obtain ⟨hb0, x0, x1, x2, x3⟩ := hs
  clear hb1 hb0
  go_wp2_with fail
  refine (few_any _ c w1 (HV.out.keep (Keeps.of_below HS.out.1 (fun _ h => h)))).mono ?_
  rintro e w2 ⟨rfl, hb⟩
  have hs := HS.out.below hb
  have HS := hid hs
  obtain ⟨hb0, x0, x1, x2, x3⟩ := hs
  clear hb hb0
  obtain ⟨f, hf⟩ : ∃ f, fewB c = f := ⟨_, rfl⟩
  rw [hf]
  have HF := hid hf
  clear hf
  cases f
  · go_wp2_with fail
    go_ret
    exact ⟨rfl, HS.out.1⟩
  go_wp2_with fail
  refine (rvalid_any _ c w2 (HV.out.keep (Keeps.of_below HS.out.1 (fun _ h => h)))).mono ?_
  rintro e w3 ⟨rfl, hb⟩
  have hs := HS.out.below hb
  have HS := hid hs
  obtain ⟨hb0, x0, x1, x2, x3⟩ := hs
  have hw3 : w.heap.size < w3.heap.size := World.block_lt_of_cell? w3 _ x0
  clear hb hb0
  obtain ⟨f, hf⟩ : ∃ f, validB c = f := ⟨_, rfl⟩
  rw [hf]
  have HVB := hid hf
  clear hf
  cases f
  · go_wp2_with fail
    go_ret
    exact ⟨rfl, HS.out.1⟩
  by_cases hl20 : 20 < ins.length
  · have hd2 : decide ((20 : Int) < (ins.length : Int)) = true := decide_eq_true (by omega)
    go_wp2_with fail
    go_ret
    exact ⟨rfl, HS.out.1⟩
  have hd2 : decide ((20 : Int) < (ins.length : Int)) = false := decide_eq_false (by omega)
  by_cases hz : c.gates.length = 0
  · have e0 : ((c.gates.length : Int) == 0) = true := by simp [hz]
    go_wp2_with fail
    go_ret
    exact ⟨rfl, HS.out.1⟩
  have e0 : ((c.gates.length : Int) == 0) = false := by rw [beq_eq_false_iff_ne]; omega
  have hpos : 0 < c.gates.length := by omega
  have hVC := (validB_iff c).1 HVB.out
  have h60 : c.gates.length ≤ 60 := by
    have := HF.out
    unfold fewB at this
    simp only [Bool.and_eq_true, decide_eq_true_eq] at this
    exact this.1.1
  have HVC := hid hVC
  have h20 : ins.length ≤ 20 := by omega
  have hmil : ins.length ≤ 1000000 := by omega
  have HMIL := hid hmil
  obtain ⟨K, hK⟩ : ∃ K : Nat, K = which.toNat % c.gates.length := ⟨_, rfl⟩
  have hKl : K < c.gates.length := by rw [hK]; exact Nat.mod_lt _ hpos
  have hKe : which % (c.gates.length : Int) = (K : Int) := by
    rw [hK]
    obtain ⟨n, rfl⟩ := Int.eq_ofNat_of_zero_le k0
    simp
  obtain ⟨b1, o1, g, rfl, _, hbl, HX, h0, h1, h2⟩ := (HG.out.keep (Keeps.of_below HS.out.1 (fun _ h => h))).get hKl
  have hKi : (K : Int) < c.gates.length := by omega
  have HK := hid hK
  clear hVC hmil hz hl20 hK hpos
  go_upto_region 4 with (fail)
  have hKt : which.tmod (c.gates.length : Int) = (K : Int) := by rw [Int.tmod_eq_emod_of_nonneg k0]; exact hKe
  have hne0 : ¬ ((c.gates.length : Int) = 0) := by omega
  have hne1 : ¬ c.gates = [] := fun e => by rw [e] at hKl; simp at hKl
  have hne2 : ¬ c.gates.length = 0 := by omega
  have hwh : IntKind.i64.wrap which = which := IntWalk.i64_in _ (by omega)
  have hK0 : (0 : Int) ≤ (K : Int) := by omega
  have hKw : IntKind.i64.wrap (K : Int) = (K : Int) := IntWalk.i64_in _ (by omega)
  have n1 := World.new_ne w3 _ x1
  have n2 := World.new_ne w3 _ h0
  go_region_held3 (fun w' => w'.cell? ⟨w.heap.size, 1, none⟩ = some (.slice (some ⟨b1, o1, none⟩) c.gates.length cg) ∧ w'.cell? ⟨b1, o1 + K * 3, none⟩ = some (.int .i64 g.k) ∧ w'.cell? ⟨b1, o1 + K * 3 + 1, none⟩ = some (.int .i64 g.a) ∧ w'.cell? ⟨b1, o1 + K * 3 + 2, none⟩ = some (.int .i64 g.b))
    (go_keep)
    (fail)
  have hW4 : Below w3.heap.size w3 (w3.alloc (.cells #[.int .i64 g.k, .int .i64 g.a, .int .i64 g.b] 45)).drew := by go_grown
  obtain ⟨W4, hW4e⟩ : ∃ W4, (w3.alloc (.cells #[.int .i64 g.k, .int .i64 g.a, .int .i64 g.b] 45)).drew = W4 := ⟨_, rfl⟩
  have hbg4 : W4.heap[w3.heap.size]? = some (.cells #[.int .i64 g.k, .int .i64 g.a, .int .i64 g.b] 45 (0, 0)) := by rw [← hW4e]; exact heap_alloc_new w3 _
  rw [hW4e] at hW4 ⊢
  have hs4 := HS.out.below hW4
  have HS := hid hs4
  have HBG := hid hbg4
  clear hW4e n1 n2 hKt hne0 hne1 hne2 hKw hwh hK0 hKe h0 h1 h2 x0 x1 x2 x3 hKi
  obtain ⟨hb0, x0, x1, x2, x3⟩ := hs4
  have z0 := block_cell hbg4 (i := 0) rfl
  have z1 := block_cell hbg4 (i := 1) rfl
  have z2 := block_cell hbg4 (i := 2) rfl
  have hsz4 : w3.heap.size < W4.heap.size := lt_of_block hbg4
  have hsz5 : w.heap.size ≤ W4.heap.size := hb0.size
  clear hb0 hW4 hbg4
  by_cases k4 : g.k = 4
  · have e4 : (g.k == 4) = true := beq_iff_eq.2 k4
    clear k4
    go_wp2_with fail
    go_ret
    exact ⟨rfl, HS.out.1⟩
  by_cases k5 : g.k = 5
  · have e4 : (g.k == 4) = false := beq_eq_false_iff_ne.2 k4
    have e5 : (g.k == 5) = true := beq_iff_eq.2 k5
    clear k4 k5
    go_wp2_with fail
    go_ret
    exact ⟨rfl, HS.out.1⟩
  have e4 : (g.k == 4) = false := beq_eq_false_iff_ne.2 k4
  have e5 : (g.k == 5) = false := beq_eq_false_iff_ne.2 k5
  have hvm := moved_valid HVC.out h60 hKl HX.out k4 k5
  have hrm := moved_run HVC.out h60 hKl HX.out k4 k5 ins
  have hg0 : (movedC c g).gates.getD 0 default = g := rfl
  have hml : (movedC c g).gates.length ≤ 61 := by simp [movedC]; omega
  have hmv := moved_any (D := fun b => b < w.heap.size) W4 (.agg #[.int .i64 c.ib, .slice (some ⟨b1, o1, none⟩) c.gates.length cg, .slice Al c.lat.length cl, .slice Ao c.outs.length co]) c g (HV.out.keep (Keeps.of_below HS.out.1 (fun _ h => h))) HVC.out h60
  have hib : (movedC c g).ib = c.ib := rfl
  obtain ⟨md, hmd⟩ : ∃ md, movedC c g = md := ⟨_, rfl⟩
  obtain ⟨out, hout⟩ : ∃ o, runZ c ins = o := ⟨_, rfl⟩
  rw [hmd] at hvm hrm hg0 hml hmv hib
  rw [hout] at hrm
  have hol : md.outs.length ≤ 6 := hvm.o
  have hll : md.lat.length ≤ 12 := hvm.l
  have hgp : 0 < md.gates.length := by
    rw [← hmd]; simp [movedC]
  have HVM := hid hvm
  have HRM := hid hrm
  have HG0 := hid hg0
  have HMV := hid hmv
  have HIB := hid hib
  have HOUT := hid hout
  have K4 := hid k4
  have K5 := hid k5
  clear hvm hrm hg0 hmv hib hmd hout k4 k5
  go_wp2_with fail
  refine HMV.out.mono ?_
  rintro e w5 ⟨Mg, mg, Ml, ml, Mo, mo, rfl, hb5, og, ol, oo, hdis⟩
  have hll5 : ∀ b, some b = (Value.slice Ml md.lat.length ml).ownBlock → b < w5.heap.size := fun b e => (ol.lt b e.symm).2
  have hlo5 : ∀ b, some b = (Value.slice Mo md.outs.length mo).ownBlock → b < w5.heap.size := fun b e => (oo.lt b e.symm).2
  go_upto_region 8 with (fail)
  refine wp_gen fun W6 hW6 => ?_
  have hb6 : Below w5.heap.size w5 W6 := by rw [hW6]; go_grown
  have hd6 : W6.heap[w5.heap.size]? = some (.cells #[.int .i64 c.ib, .slice Mg md.gates.length mg, .slice Ml md.lat.length ml, .slice Mo md.outs.length mo] 25 (0, 0)) := by rw [hW6]; exact heap_alloc_new w5 _
  have hb46 : Below W4.heap.size W4 W6 := hb5.trans (hb6.mono hb5.size)
  have hs6 := HS.out.below hb46
  have HS6 := hid hs6
  have GLx : ∀ (w7 : World) (B : Option Addr) (cb : Nat), Below W6.heap.size W6 w7 → RdI w7 (fun b => W6.heap.size ≤ b) B cb out → GL w w7 w5.heap.size w3.heap.size W6.heap.size c.ib g md.gates Mg mg md.lat Ml ml md.outs Mo mo out B cb := by
    intro w7 B cb hb7 hr7
    have h67 := hb6.trans (hb7.mono hb6.size)
    refine ⟨HS6.out.1.trans (hb7.mono HS6.out.1.size), (hb7.block _ (lt_of_block hd6)).trans hd6, ?_, own_base (own_below og h67) hsz5, own_base (own_below ol h67) hsz5, own_base (own_below oo h67) hsz5, hdis, hr7, fun b e => Nat.lt_of_lt_of_le (hll5 b e) hb6.size, fun b e => Nat.lt_of_lt_of_le (hlo5 b e) hb6.size⟩
    exact ((hb46.trans (hb7.mono hb46.size)).block _ hsz4).trans HBG.out
  have HGLx := hid GLx
  clear GLx hb5 og ol oo hdis hll5 hlo5 hb6 hd6 hb46 x0 x1 x2 x3 z0 z1 z2
  obtain ⟨hb0, x0, x1, x2, x3⟩ := hs6
  clear hb0
  clear hW6
  go_wp2_with fail
  refine (run_at _ W6 c ins out A ca (HV.out.keep (Keeps.of_below HS6.out.1 (fun _ h => h))) (HI.out.keep (Keeps.of_below HS6.out.1 (fun _ h => h))) (by omega) HOUT.out).mono ?_
  rintro e w7 ⟨B, cb, rfl, hb7, hr7⟩
  have hGL := HGLx.out w7 B cb hb7 hr7
  have HGL := hid hGL
  have hrdm : RdC w7 (fun _ => True) (.agg #[.int .i64 c.ib, .slice Mg md.gates.length mg, .slice Ml md.lat.length ml, .slice Mo md.outs.length mo]) md :=
    ⟨Mg, mg, Ml, ml, Mo, mo, by rw [HIB.out], Rd.own hGL.og (by omega) (fun _ _ => trivial), Rd.own hGL.ol (by omega) (fun _ _ => trivial), Rd.own hGL.oo (by omega) (fun _ _ => trivial)⟩
  have HRD := hid hrdm.old
  have d0 := block_cell hGL.dc (i := 0) rfl
  have d1 := block_cell hGL.dc (i := 1) rfl
  have d2 := block_cell hGL.dc (i := 2) rfl
  have d3 := block_cell hGL.dc (i := 3) rfl
  clear hb7 hr7 hGL hrdm
  go_wp2_with fail
  refine (valid_any _ md w7 HRD.out).mono ?_
  rw [(validB_iff md).2 HVM.out]
  rintro e w8 ⟨rfl, hb8⟩
  have hGL := HGL.out.after hb8
  have HGL := hid hGL
  have HRD := hid ((HRD.out.keep (Keeps.of_below hb8 (fun _ h => h))).mono (E := (· < w8.heap.size)) (fun b h _ => by have : b < w7.heap.size := h; have := hb8.size; omega))
  have d0 := block_cell hGL.dc (i := 0) rfl
  have d1 := block_cell hGL.dc (i := 1) rfl
  have d2 := block_cell hGL.dc (i := 2) rfl
  have d3 := block_cell hGL.dc (i := 3) rfl
  clear hb8 hGL
  go_wp2_with fail
  refine (run_at _ w8 md ins out A ca HRD.out (HI.out.keep (Keeps.of_below HGL.out.below (fun _ h => h))) (by omega) HRM.out).mono ?_
  rintro e w9 ⟨B9, c9, rfl, hb9, hr9⟩
  have hGL := HGL.out.after hb9
  have HGL := hid hGL
  have hr9' := hr9.old
  clear hb9 hGL hr9
  go_wp2_with fail
  refine (ints_same w9 out B9 B c9 cb hr9' HGL.out.outs).mono ?_
  rintro e w10 ⟨rfl, hd10⟩
  have hGL := HGL.out.after (hd10.below _)
  have HGL := hid hGL
  clear hd10 hGL hr9'
  go_wp2_with fail
  go_loopw [11] (fun t wr => ∃ (i : Nat) (zs : List Int), t = .int .i64 (i : Int) ∧ zs = zeroTo md.gates g md.outs i ∧ zs.length = md.outs.length ∧ i ≤ zs.length ∧ GL w wr w5.heap.size w3.heap.size W6.heap.size c.ib g md.gates Mg mg md.lat Ml ml zs Mo mo out B cb) (fun t _ => md.outs.length - (intOf t).toNat)
  case atStart => exact ⟨0, _, rfl, (zeroTo_zero _ _ _).symm, rfl, Nat.zero_le _, HGL.out⟩
  case round =>
    obtain ⟨i, zs, rfl, hzs, hzl, hiz, hGL⟩ := hrel
    have HZS := hid hzs
    have HZL := hid hzl
    have d0 := block_cell hGL.dc (i := 0) rfl
    have d1 := block_cell hGL.dc (i := 1) rfl
    have d2 := block_cell hGL.dc (i := 2) rfl
    have d3 := block_cell hGL.dc (i := 3) rfl
    have dl : w5.heap.size < wr.heap.size := lt_of_block hGL.dc
    have gx0 := block_cell hGL.gx (i := 0) rfl
    have gx1 := block_cell hGL.gx (i := 1) rfl
    have gx2 := block_cell hGL.gx (i := 2) rfl
    have gxl : w3.heap.size < wr.heap.size := lt_of_block hGL.gx
    have hzm : zs.length ≤ 12 := by omega
    clear hzs hzl
    by_cases hlt : i < zs.length
    · obtain ⟨bo, hA, hbo, hbo2, hzc, hcm⟩ := own_at hGL.oo (by omega)
      have hlt' : i < md.outs.length := by rw [← HZL.out]; exact hlt
      have hz0 : zs.getD i 0 = md.outs.getD i 0 := by rw [HZS.out]; exact zeroTo_at _ _ _ hlt'
      obtain ⟨x, hx⟩ : ∃ x, md.outs.getD i 0 = x := ⟨_, rfl⟩
      have hrng := HVM.out.or_ i hlt'
      rw [hx] at hrng hz0
      obtain ⟨X, rfl⟩ : ∃ X : Nat, x = X := ⟨x.toNat, by omega⟩
      have hXl : X < md.gates.length := by omega
      have hXi : (X : Int) < md.gates.length := by omega
      have hown := hGL.oo
      rw [hA] at hown
      have hcell := hown.cellAt i (by omega)
      have hfro := hown.frozenAt i
      clear hown
      have hcx : wr.cell? ⟨bo, i, none⟩ = some (.int .i64 (X : Int)) := by
        have e : (zs.map (Value.int .i64))[i]? = some (.int .i64 (X : Int)) := by
          rw [List.getElem?_map, List.getElem?_eq_getElem hlt]
          simp only [Option.map_some]
          have : zs.getD i 0 = zs[i] := by simp [List.getD, hlt]
          rw [← this, hz0]
        first | exact hcell.trans e | simpa using hcell.trans e
      obtain ⟨bg2, og2, y, hAg, _, hbg2, HY, g0, g1, g2⟩ := RdG.get (Rd.own (D := fun _ => True) hGL.og (by omega) (fun _ _ => trivial)) hXl
      have hff : wr.frozen? ⟨bo, i, none⟩ = false := hfro
      have hii : (i : Int) < zs.length := by omega
      obtain ⟨ve, hve⟩ : ∃ ve, decide (y = g) = ve := ⟨_, rfl⟩
      have heq : ∀ W : World, (binOp .eql 45 (.agg #[.int .i64 y.k, .int .i64 y.a, .int .i64 y.b]) (.agg #[.int .i64 g.k, .int .i64 g.a, .int .i64 g.b])).run Try.prog W = .ok (.bool ve) W := fun W => by
        rw [gate_eql, ← hve]
      have HVE := hid hve
      have HGL2 := hid hGL
      have HAO := hid hA
      have HXX := hid hx
      rw [hAg] at d1
      rw [hA] at d3
      clear hve hGL hx hrng hcell hfro hz0 hA hlt' hAg
      go_wp2_with fail
      go_quiet (fail)
      cases ve
      · clear heq
        go_wp2_with fail
        go_roundw
        case rel =>
          have hny : md.gates.getD (md.outs.getD i 0).toNat default ≠ g := by
            rw [HXX.out, Int.toNat_natCast, HY.out]
            exact of_decide_eq_false HVE.out
          exact ⟨i + 1, zs, by go_num, by rw [zeroTo_no (by rw [← HZL.out]; exact hlt) hny]; exact HZS.out, HZL.out, by omega, by exact HGL2.out.after (below_drewN (Below.refl _ _) _)⟩
        case measure => simp [intOf]; have := HZL.out; omega
      · clear heq
        go_wp2_with fail
        go_roundw
        case rel =>
          have hny : md.gates.getD (md.outs.getD i 0).toNat default = g := by
            rw [HXX.out, Int.toNat_natCast, HY.out]
            exact of_decide_eq_true HVE.out
          exact ⟨i + 1, zs.set i 0, by go_num, by rw [zeroTo_yes (by rw [← HZL.out]; exact hlt) hny, HZS.out], by rw [List.length_set]; exact HZL.out, by rw [List.length_set]; omega, by exact (HGL2.out.after (below_drewN (Below.refl _ _) _)).seto (k := i) HAO.out 0⟩
        case measure => simp [intOf]; have := HZL.out; omega
    · obtain rfl : i = zs.length := by omega
      obtain ⟨zo, rfl⟩ : ∃ z, z = zs := ⟨_, rfl⟩
      have HZO := HZS
      have HZOL := HZL
      have HGL := hid hGL
      clear hGL
      go_wp2_with fail
      obtain ⟨wo, rfl⟩ : ∃ wo : World, wo = wr := ⟨_, rfl⟩
      go_loopw [12] (fun t wr => ∃ (i : Nat) (zs : List Int), t = .int .i64 (i : Int) ∧ zs = zeroTo md.gates g md.lat i ∧ zs.length = md.lat.length ∧ i ≤ zs.length ∧ GL w wr w5.heap.size w3.heap.size W6.heap.size c.ib g md.gates Mg mg zs Ml ml zo Mo mo out B cb) (fun t _ => md.lat.length - (intOf t).toNat)
      case atStart => exact ⟨0, _, rfl, (zeroTo_zero _ _ _).symm, rfl, Nat.zero_le _, HGL.out⟩
      case round =>
        obtain ⟨i, zs, rfl, hzs, hzl, hiz, hGL⟩ := hrel
        have HZS := hid hzs
        have HZL := hid hzl
        have d0 := block_cell hGL.dc (i := 0) rfl
        have d1 := block_cell hGL.dc (i := 1) rfl
        have d2 := block_cell hGL.dc (i := 2) rfl
        have d3 := block_cell hGL.dc (i := 3) rfl
        have dl : w5.heap.size < wr.heap.size := lt_of_block hGL.dc
        have gx0 := block_cell hGL.gx (i := 0) rfl
        have gx1 := block_cell hGL.gx (i := 1) rfl
        have gx2 := block_cell hGL.gx (i := 2) rfl
        have gxl : w3.heap.size < wr.heap.size := lt_of_block hGL.gx
        have hzm : zs.length ≤ 12 := by omega
        clear hzs hzl
        by_cases hlt : i < zs.length
        · obtain ⟨bo, hA, hbo, hbo2, hzc, hcm⟩ := own_at hGL.ol (by omega)
          have hlt' : i < md.lat.length := by rw [← HZL.out]; exact hlt
          have hz0 : zs.getD i 0 = md.lat.getD i 0 := by rw [HZS.out]; exact zeroTo_at _ _ _ hlt'
          obtain ⟨x, hx⟩ : ∃ x, md.lat.getD i 0 = x := ⟨_, rfl⟩
          have hrng := HVM.out.lr i hlt'
          rw [hx] at hrng hz0
          obtain ⟨X, rfl⟩ : ∃ X : Nat, x = X := ⟨x.toNat, by omega⟩
          have hXl : X < md.gates.length := by omega
          have hXi : (X : Int) < md.gates.length := by omega
          have hown := hGL.ol
          rw [hA] at hown
          have hcell := hown.cellAt i (by omega)
          have hfro := hown.frozenAt i
          clear hown
          have hcx : wr.cell? ⟨bo, i, none⟩ = some (.int .i64 (X : Int)) := by
            have e : (zs.map (Value.int .i64))[i]? = some (.int .i64 (X : Int)) := by
              rw [List.getElem?_map, List.getElem?_eq_getElem hlt]
              simp only [Option.map_some]
              have : zs.getD i 0 = zs[i] := by simp [List.getD, hlt]
              rw [← this, hz0]
            first | exact hcell.trans e | simpa using hcell.trans e
          obtain ⟨bg2, og2, y, hAg, _, hbg2, HY, g0, g1, g2⟩ := RdG.get (Rd.own (D := fun _ => True) hGL.og (by omega) (fun _ _ => trivial)) hXl
          have hff : wr.frozen? ⟨bo, i, none⟩ = false := hfro
          have hii : (i : Int) < zs.length := by omega
          obtain ⟨ve, hve⟩ : ∃ ve, decide (y = g) = ve := ⟨_, rfl⟩
          have heq : ∀ W : World, (binOp .eql 45 (.agg #[.int .i64 y.k, .int .i64 y.a, .int .i64 y.b]) (.agg #[.int .i64 g.k, .int .i64 g.a, .int .i64 g.b])).run Try.prog W = .ok (.bool ve) W := fun W => by
            rw [gate_eql, ← hve]
          have HVE := hid hve
          have HGL2 := hid hGL
          have HAO := hid hA
          have HXX := hid hx
          rw [hAg] at d1
          rw [hA] at d2
          clear hve hGL hx hrng hcell hfro hz0 hA hlt' hAg
          go_wp2_with fail
          go_quiet (fail)
          cases ve
          · clear heq
            go_wp2_with fail
            go_roundw
            case rel =>
              have hny : md.gates.getD (md.lat.getD i 0).toNat default ≠ g := by
                rw [HXX.out, Int.toNat_natCast, HY.out]
                exact of_decide_eq_false HVE.out
              exact ⟨i + 1, zs, by go_num, by rw [zeroTo_no (by rw [← HZL.out]; exact hlt) hny]; exact HZS.out, HZL.out, by omega, by exact HGL2.out.after (below_drewN (Below.refl _ _) _)⟩
            case measure => simp [intOf]; have := HZL.out; omega
          · clear heq
            go_wp2_with fail
            go_roundw
            case rel =>
              have hny : md.gates.getD (md.lat.getD i 0).toNat default = g := by
                rw [HXX.out, Int.toNat_natCast, HY.out]
                exact of_decide_eq_true HVE.out
              exact ⟨i + 1, zs.set i 0, by go_num, by rw [zeroTo_yes (by rw [← HZL.out]; exact hlt) hny, HZS.out], by rw [List.length_set]; exact HZL.out, by rw [List.length_set]; omega, by exact (HGL2.out.after (below_drewN (Below.refl _ _) _)).setl (k := i) HAO.out 0⟩
            case measure => simp [intOf]; have := HZL.out; omega
        · obtain rfl : i = zs.length := by omega
          have HGF := hid hGL
          clear hGL
          have e1 : zs = zeroTo md.gates g md.lat md.lat.length := by have := HZS.out; rw [HZL.out] at this; exact this
          have e2 : zo = zeroTo md.gates g md.outs md.outs.length := by have := HZO.out; rw [HZOL.out] at this; exact this
          have hzc : zeroedC md g = ⟨md.ib, md.gates, zs, zo⟩ := by unfold zeroedC; rw [← e1, ← e2]
          have hzr : runZ (zeroedC md g) ins = out := (zeroed_run HVM.out hgp HG0.out K4.out K5.out ins).trans HRM.out
          have hzol : zo.length ≤ 6 := by rw [HZOL.out]; exact hol
          have hrdz : RdC wr (fun _ => True) (.agg #[.int .i64 c.ib, .slice Mg md.gates.length mg, .slice Ml zs.length ml, .slice Mo zo.length mo]) (zeroedC md g) := by
            rw [hzc]
            exact ⟨Mg, mg, Ml, ml, Mo, mo, by rw [HIB.out], Rd.own HGF.out.og (by show md.gates.length ≤ _; omega) (fun _ _ => trivial), Rd.own HGF.out.ol (by show zs.length ≤ _; omega) (fun _ _ => trivial), Rd.own HGF.out.oo (by show zo.length ≤ _; omega) (fun _ _ => trivial)⟩
          have HZR := hid hzr
          have HRDZ := hid hrdz
          clear e1 e2 hzc hzr hrdz
          go_wp2_with fail
          refine (run_at _ wr (zeroedC md g) ins out A ca HRDZ.out (HI.out.keep (Keeps.of_below HGF.out.below (fun _ h => h))) (by omega) HZR.out).mono ?_
          rintro e wa ⟨Bz, cz, rfl, hba, hra⟩
          have HGA := hid (HGF.out.after hba)
          have HRA := hid hra.old
          clear hba hra
          go_wp2_with fail
          refine (ints_same wa out Bz B cz cb HRA.out HGA.out.outs).mono ?_
          rintro e wb ⟨rfl, hdb⟩
          have HFIN := hid (HGA.out.below.trans (hdb.below _))
          clear hdb
          go_wp2_with fail
          go_ret
          exact ⟨rfl, HFIN.out⟩
end Go.Proofs.Ytfabdpnjjondaaa
