/-
  Walks of three and head: the fixed examples.
  Walks of the laws' helpers: fine, inputs.
-/
import Derived.Test.YtcmhginhfhiolaaZ32
import Derived.Test.YtcmhginhfhiolaaZ31
import Derived.Test.YtcmhginhfhiolaaZ14
import Derived.Test.YtcmhginhfhiolaaZ17
import Derived.IntWalk
import Derived.Test.YtcmhginhfhiolaaZ02
set_option linter.unusedVariables false
set_option linter.unusedSimpArgs false
namespace Go.Proofs.Ytcmhginhfhiolaa
open Go.RowKit
attribute [local go_sem] cell_alloc_old

theorem bm1 (x y : Int) (A C : Option Addr) (n c m f : Nat) (w : World) : (Instr.build 24 #[(0, .int .i64 x), (1, .int .i64 y), (3, .slice A n c), (4, .slice C m f)]).run Try.prog w = .ok (.agg #[.int .i64 x, .int .i64 y, .int .i64 0, .slice A n c, .slice C m f]) w := run_build w 24 _ _ (by kernel_rfl)
theorem bm2 (x y z : Int) (A C : Option Addr) (n c m f : Nat) (w : World) : (Instr.build 24 #[(0, .int .i64 x), (1, .int .i64 y), (2, .int .i64 z), (3, .slice A n c), (4, .slice C m f)]).run Try.prog w = .ok (.agg #[.int .i64 x, .int .i64 y, .int .i64 z, .slice A n c, .slice C m f]) w := run_build w 24 _ _ (by kernel_rfl)
theorem bm0 (w : World) : (Instr.build 24 #[]).run Try.prog w = .ok (.agg #[.int .i64 0, .int .i64 0, .int .i64 0, .slice none 0 0, .slice none 0 0]) w := run_build w 24 _ _ (by kernel_rfl)
attribute [local go_sem] bm1 bm2 bm0

section
variable {D E : Dom} (v : Value) (w : World)
theorem least_ex (h : RdM w D v m3) : Calls Try.prog 18 #[v] w fun e w' => ∃ Ao co An cn, e = .returned (.agg #[.int .i64 2, .int .i64 2, .int .i64 0, .slice Ao 2 co, .slice An 2 cn]) ∧ Below w.heap.size w w' ∧ RdM w' (fun b => w.heap.size ≤ b) (.agg #[.int .i64 2, .int .i64 2, .int .i64 0, .slice Ao 2 co, .slice An 2 cn]) least3 := by
  refine (least_any v m3 w h).mono ?_
  rintro e w' ⟨u, X, rfl, hb, hr, hl⟩
  obtain rfl := least3_is (hl.1 m3_ok)
  have hr2 := hr
  obtain ⟨Ao, co, An, cn, rfl, -, -⟩ := hr2
  exact ⟨Ao, co, An, cn, rfl, hb, hr⟩
theorem loose_ex (A : Option Addr) (ca : Nat) (h : RdM w D v m3) (hc : RdBB w E A ca care3) : Calls Try.prog 20 #[v, .slice A 3 ca] w fun e w' => ∃ Ao co An cn, e = .returned (.agg #[.int .i64 2, .int .i64 2, .int .i64 0, .slice Ao 1 co, .slice An 1 cn]) ∧ Below w.heap.size w w' ∧ RdM w' (fun b => w.heap.size ≤ b) (.agg #[.int .i64 2, .int .i64 2, .int .i64 0, .slice Ao 1 co, .slice An 1 cn]) loose3 := by
  refine (loose_any v m3 A ca care3 w h hc).mono ?_
  rintro e w' ⟨u, X, rfl, hb, hr, hl⟩
  obtain rfl := loose3_is (hl.1 (by rw [m3_ok, care3_ok]; rfl))
  have hr2 := hr
  obtain ⟨Ao, co, An, cn, rfl, -, -⟩ := hr2
  exact ⟨Ao, co, An, cn, rfl, hb, hr⟩
theorem loose_nil (h : RdM w D v m3) : Calls Try.prog 20 #[v, .slice none 0 0] w fun e w' => ∃ (i0 i1 i2 : Int) (Zo : Option Addr) (zo : Nat) (Zn : Option Addr) (zk zn : Nat), e = .returned (.agg #[.int .i64 i0, .int .i64 i1, .int .i64 i2, .slice Zo 0 zo, .slice Zn zk zn]) ∧ Below w.heap.size w w' := by
  refine (loose_any (E := fun _ => True) v m3 none 0 [] w h (RdBB.nil _ _ _ (by omega))).mono ?_
  rintro e w' ⟨u, X, rfl, hb, hr, hl⟩
  obtain rfl := hl.2 (by kernel_rfl)
  obtain ⟨Ao, co, An, cn, rfl, -, -⟩ := hr
  exact ⟨_, _, _, Ao, co, An, _, cn, rfl, hb⟩
theorem trim_ex (h : RdM w D v far3) : Calls Try.prog 14 #[v] w fun e w' => ∃ Ao co An cn, e = .returned (.agg #[.int .i64 1, .int .i64 3, .int .i64 0, .slice Ao 3 co, .slice An 3 cn]) ∧ Below w.heap.size w w' ∧ RdM w' (fun b => w.heap.size ≤ b) (.agg #[.int .i64 1, .int .i64 3, .int .i64 0, .slice Ao 3 co, .slice An 3 cn]) trim3 := by
  refine (trim_any v far3 w h).mono ?_
  rintro e w' ⟨u, rfl, hb, hr⟩
  rw [far3_trim] at hr
  have hr2 := hr
  obtain ⟨Ao, co, An, cn, rfl, -, -⟩ := hr2
  exact ⟨Ao, co, An, cn, rfl, hb, hr⟩
theorem run_ex (A : Option Addr) (ca : Nat) (h : RdM w D v least3) (hi : RdI w E A ca [1, 1, 0, 1]) : Calls Try.prog 24 #[v, .int .i64 0, .slice A 4 ca] w fun e w' => ∃ A' c', e = .returned (.tuple #[.slice A' 4 c', .int .i64 1]) ∧ Below w.heap.size w w' ∧ RdI w' (fun b => w.heap.size ≤ b) A' c' [0, 1, 0, 0] := by
  refine (mrun_any v least3 0 A ca [1, 1, 0, 1] w h hi least3_ok (by omega) (by show (0 : Int) < 2; omega) (by kernel_rfl) (by simp)).mono ?_
  rintro e w' ⟨A', c', rfl, hb, hr⟩
  have h1 : mOuts least3 0 [1, 1, 0, 1] ([1, 1, 0, 1] : List Int).length = [0, 1, 0, 0] := run3.1
  have h2 : mSt least3 0 [1, 1, 0, 1] ([1, 1, 0, 1] : List Int).length = 1 := run3.2
  rw [h1] at hr
  exact ⟨A', c', by rw [h2]; rfl, hb, hr⟩
theorem eq_ex (m : Mly) (v u : Value) (w : World) (h : RdM w D v m) (k : RdM w E u m) : Calls Try.prog 13 #[v, u] w fun e w' => e = .returned (.bool true) ∧ Below w.heap.size w w' := by
  have := equal_any v u m m w h k
  rw [(eqMB_iff m m).2 rfl] at this
  exact this
theorem same_yes {a b : Mly} (hs : SameP a b) (v u : Value) (w : World) (h : RdM w D v a) (k : RdM w E u b) : Calls Try.prog 16 #[v, u] w fun e w' => e = .returned (.bool true) ∧ Below w.heap.size w w' := by
  refine (same_any v u a b w h k).mono ?_
  rintro e w' ⟨⟨r, rfl, hr⟩, hb⟩
  rw [hr.2 hs]
  exact ⟨rfl, hb⟩
theorem same_no {a b : Mly} (hs : ¬ SameP a b) (v u : Value) (w : World) (h : RdM w D v a) (k : RdM w E u b) : Calls Try.prog 16 #[v, u] w fun e w' => e = .returned (.bool false) ∧ Below w.heap.size w w' := by
  refine (same_any v u a b w h k).mono ?_
  rintro e w' ⟨⟨r, rfl, hr⟩, hb⟩
  have : r = false := by
    cases r
    · rfl
    · exact absurd (hr.1 rfl) hs
  rw [this]
  exact ⟨rfl, hb⟩
theorem ints_same (w : World) (xs : List Int) (A B : Option Addr) (c d : Nat) (hx : RdI w D A c xs) (hy : RdI w E B d xs) : Calls Try.prog 25 #[.slice A xs.length c, .slice B xs.length d] w fun e w' => e = .returned (.bool true) ∧ Drawn w w' := by
  have := ints_any A B c d xs xs w hx hy
  rw [decide_eq_true (rfl : xs = xs)] at this
  exact this
end

set_option maxHeartbeats 4000000 in
theorem three_any (w : World) : Calls Try.prog 30 #[] w fun e w' => ∃ Ao co An cn, e = .returned (.agg #[.int .i64 2, .int .i64 2, .int .i64 0, .slice Ao 3 co, .slice An 3 cn]) ∧ Below w.heap.size w w' ∧ RdM w' (fun b => w.heap.size ≤ b) (.agg #[.int .i64 2, .int .i64 2, .int .i64 0, .slice Ao 3 co, .slice An 3 cn]) m3 := by
  go_enter Try.func30, Try.ntmps30
  go_wp2_with fail
  refine bodyPost_gen fun W hW => ?_
  have b0 : W.heap[w.heap.size]? = some (.cells #[.int .i64 2, .int .i64 2, .int .i64 0, .slice (some ⟨w.heap.size + 1 + 1 + 1 + 1, 0, none⟩) 3 3, .slice (some ⟨w.heap.size + 1 + 1 + 1 + 1 + 1 + 1 + 1 + 1, 0, none⟩) 3 3] 24 (0, 0)) := by rw [hW]; (repeat (first | (refine at_new _ _ _ ?_; (simp only [World.size_alloc]; done)) | (refine (at_old _ _ _ ?_).trans ?_; (simp only [World.size_alloc]; omega))))
  have b1 : W.heap[w.heap.size + 1]? = some (.cells #[.int .i64 0, .int .i64 0] 3 (0, 0)) := by rw [hW]; (repeat (first | (refine at_new _ _ _ ?_; (simp only [World.size_alloc]; done)) | (refine (at_old _ _ _ ?_).trans ?_; (simp only [World.size_alloc]; omega))))
  have b2 : W.heap[w.heap.size + 1 + 1]? = some (.cells #[.int .i64 0, .int .i64 0] 3 (0, 0)) := by rw [hW]; (repeat (first | (refine at_new _ _ _ ?_; (simp only [World.size_alloc]; done)) | (refine (at_old _ _ _ ?_).trans ?_; (simp only [World.size_alloc]; omega))))
  have b3 : W.heap[w.heap.size + 1 + 1 + 1]? = some (.cells #[.int .i64 0, .int .i64 1] 3 (0, 0)) := by rw [hW]; (repeat (first | (refine at_new _ _ _ ?_; (simp only [World.size_alloc]; done)) | (refine (at_old _ _ _ ?_).trans ?_; (simp only [World.size_alloc]; omega))))
  have b5 : W.heap[w.heap.size + 1 + 1 + 1 + 1 + 1]? = some (.cells #[.int .i64 1, .int .i64 2] 3 (0, 0)) := by rw [hW]; (repeat (first | (refine at_new _ _ _ ?_; (simp only [World.size_alloc]; done)) | (refine (at_old _ _ _ ?_).trans ?_; (simp only [World.size_alloc]; omega))))
  have b6 : W.heap[w.heap.size + 1 + 1 + 1 + 1 + 1 + 1]? = some (.cells #[.int .i64 1, .int .i64 2] 3 (0, 0)) := by rw [hW]; (repeat (first | (refine at_new _ _ _ ?_; (simp only [World.size_alloc]; done)) | (refine (at_old _ _ _ ?_).trans ?_; (simp only [World.size_alloc]; omega))))
  have b7 : W.heap[w.heap.size + 1 + 1 + 1 + 1 + 1 + 1 + 1]? = some (.cells #[.int .i64 1, .int .i64 2] 3 (0, 0)) := by rw [hW]; (repeat (first | (refine at_new _ _ _ ?_; (simp only [World.size_alloc]; done)) | (refine (at_old _ _ _ ?_).trans ?_; (simp only [World.size_alloc]; omega))))
  have b4 : W.heap[w.heap.size + 1 + 1 + 1 + 1]? = some (.cells #[.slice (some ⟨w.heap.size + 1, 0, none⟩) 2 2, .slice (some ⟨w.heap.size + 1 + 1, 0, none⟩) 2 2, .slice (some ⟨w.heap.size + 1 + 1 + 1, 0, none⟩) 2 2] 34 (0, 0)) := by rw [hW]; (repeat (first | (refine at_new _ _ _ ?_; (simp only [World.size_alloc]; done)) | (refine (at_old _ _ _ ?_).trans ?_; (simp only [World.size_alloc]; omega))))
  have b8 : W.heap[w.heap.size + 1 + 1 + 1 + 1 + 1 + 1 + 1 + 1]? = some (.cells #[.slice (some ⟨w.heap.size + 1 + 1 + 1 + 1 + 1, 0, none⟩) 2 2, .slice (some ⟨w.heap.size + 1 + 1 + 1 + 1 + 1 + 1, 0, none⟩) 2 2, .slice (some ⟨w.heap.size + 1 + 1 + 1 + 1 + 1 + 1 + 1, 0, none⟩) 2 2] 34 (0, 0)) := by rw [hW]; (repeat (first | (refine at_new _ _ _ ?_; (simp only [World.size_alloc]; done)) | (refine (at_old _ _ _ ?_).trans ?_; (simp only [World.size_alloc]; omega))))
  have hb : Below w.heap.size w W := by rw [hW]; go_grown
  have p0 := block_cell b0 (i := 0) rfl
  have p1 := block_cell b0 (i := 1) rfl
  have p2 := block_cell b0 (i := 2) rfl
  have p3 := block_cell b0 (i := 3) rfl
  have p4 := block_cell b0 (i := 4) rfl
  have hrd : RdM W (fun b => w.heap.size ≤ b) (.agg #[.int .i64 2, .int .i64 2, .int .i64 0, .slice (some ⟨w.heap.size + 1 + 1 + 1 + 1, 0, none⟩) 3 3, .slice (some ⟨w.heap.size + 1 + 1 + 1 + 1 + 1 + 1 + 1 + 1, 0, none⟩) 3 3]) m3 := by
    refine ⟨_, _, _, _, rfl, ⟨_, rd_block b4 (n := 3) (size := 1) (by show w.heap.size ≤ _; omega) rfl (by omega), fun i hi => ?_⟩, ⟨_, rd_block b8 (n := 3) (size := 1) (by show w.heap.size ≤ _; omega) rfl (by omega), fun i hi => ?_⟩⟩
    · match i, hi with
      | 0, _ => exact ⟨_, _, rfl, ints_block b1 (zs := [0, 0]) (by show w.heap.size ≤ _; omega) rfl (by simp)⟩
      | 1, _ => exact ⟨_, _, rfl, ints_block b2 (zs := [0, 0]) (by show w.heap.size ≤ _; omega) rfl (by simp)⟩
      | 2, _ => exact ⟨_, _, rfl, ints_block b3 (zs := [0, 1]) (by show w.heap.size ≤ _; omega) rfl (by simp)⟩
      | i + 3, hi => exact absurd hi (by simp [m3])
    · match i, hi with
      | 0, _ => exact ⟨_, _, rfl, ints_block b5 (zs := [1, 2]) (by show w.heap.size ≤ _; omega) rfl (by simp)⟩
      | 1, _ => exact ⟨_, _, rfl, ints_block b6 (zs := [1, 2]) (by show w.heap.size ≤ _; omega) rfl (by simp)⟩
      | 2, _ => exact ⟨_, _, rfl, ints_block b7 (zs := [1, 2]) (by show w.heap.size ≤ _; omega) rfl (by simp)⟩
      | i + 3, hi => exact absurd hi (by simp [m3])
  clear hW b0 b1 b2 b3 b4 b5 b6 b7 b8
  exact bodyPost_ret (v := .agg #[.int .i64 2, .int .i64 2, .int .i64 0, .slice (some ⟨w.heap.size + 1 + 1 + 1 + 1, 0, none⟩) 3 3, .slice (some ⟨w.heap.size + 1 + 1 + 1 + 1 + 1 + 1 + 1 + 1, 0, none⟩) 3 3]) (by simp [results, Try.results30, go_sem, p0, p1, p2, p3, p4]) rfl ⟨_, _, _, _, rfl, hb, hrd⟩
end Go.Proofs.Ytcmhginhfhiolaa
set_option linter.unusedVariables false
set_option linter.unusedSimpArgs false
namespace Go.Proofs.Ytcmhginhfhiolaa
open Go.RowKit Go.Shelf
attribute [local go_sem] cell_alloc_old

set_option maxHeartbeats 4000000 in
theorem fine_any {D : Dom} (v : Value) (m : Mly) (w : World) (h : RdM w D v m) :
    Calls Try.prog 22 #[v] w fun e w' => e = .returned (.bool (smallB m && mealyB m)) ∧ Below w.heap.size w w' := by
  have HV := hid h.old
  obtain ⟨Ao, co, An, cn, rfl, ho, hn⟩ := h
  clear ho hn
  go_enter Try.func22, Try.ntmps22
  go_upto_region 1 with (fail)
  refine wp_gen fun W hW => ?_
  have HB := hid (show HasM W w.heap.size _ m by rw [hW]; exact HasM.new HV.out)
  have HBW := hid (show Below w.heap.size w W by rw [hW]; go_grown)
  clear hW
  obtain ⟨x0, x1, x2, x3, x4, xl⟩ := HB.out.cells
  go_wp2_with fail
  refine (small_any _ m W HB.out.rd).mono ?_
  rintro e W1 ⟨rfl, hb⟩
  have HB := hid (HB.out.below hb)
  have HBW := hid (HBW.out.trans (hb.mono HBW.out.size))
  clear hb x0 x1 x2 x3 x4 xl
  obtain ⟨x0, x1, x2, x3, x4, xl⟩ := HB.out.cells
  cases hf : smallB m
  · have HF := hid hf
    clear hf
    go_wp2_with fail
    go_ret
    exact ⟨ret_bool (by rw [HF.out]; rfl), HBW.out⟩
  · have HF := hid hf
    clear hf
    go_wp2_with fail
    refine (rmvalid_any _ m W1 HB.out.rd).mono ?_
    rintro e W2 ⟨rfl, hb⟩
    have HBW := hid (HBW.out.trans (hb.mono HBW.out.size))
    clear hb x0 x1 x2 x3 x4 xl
    go_wp2_with fail
    go_ret
    exact ⟨ret_bool (by rw [HF.out]; rfl), HBW.out⟩

def inpZ (m : Mly) (ch : List Int) (k : Nat) : List Int := (List.range k).map fun i => ch.getD i 0 % m.ins
def inputsZ (m : Mly) (ch : List Int) : List Int := inpZ m ch (min ch.length 40)
theorem inpZ_succ (m : Mly) (ch : List Int) (k : Nat) : inpZ m ch (k + 1) = inpZ m ch k ++ [ch.getD k 0 % m.ins] := by unfold inpZ; rw [List.range_succ, List.map_append]; rfl
theorem inpZ_len (m : Mly) (ch : List Int) (k : Nat) : (inpZ m ch k).length = k := by simp [inpZ]

set_option maxRecDepth 100000 in
set_option maxHeartbeats 4000000 in
theorem inputs_any {D E : Dom} (v : Value) (m : Mly) (A : Option Addr) (c : Nat) (ch : List Int) (w : World) (h : RdM w D v m) (hc : RdY w E A c ch) (hi1 : 1 ≤ m.ins) (hi2 : m.ins ≤ 64) :
    Calls Try.prog 23 #[v, .slice A ch.length c] w fun e w' => ∃ A' c', e = .returned (.slice A' (inputsZ m ch).length c') ∧ Below w.heap.size w w' ∧ RdI w' (fun k => w.heap.size ≤ k) A' c' (inputsZ m ch) := by
  obtain ⟨i0, hti, hz0, hz1, hz2⟩ := info_parts int_info
  have HC := hid hc.old
  have hcl := hc.len.1
  obtain ⟨Ao, co, An, cn, rfl, ho, hn⟩ := h
  clear ho hn hc
  go_enter Try.func23, Try.ntmps23
  go_upto_region 2 with (fail)
  refine wp_gen fun W hW => ?_
  have hx : W.heap[w.heap.size]? = some (.cells #[.int .i64 m.ins, .int .i64 m.outs, .int .i64 m.start, .slice Ao m.out.length co, .slice An m.next.length cn] 24 (0, 0)) := by
    rw [hW]; (repeat (first | (refine at_new _ _ _ ?_; (simp only [World.size_alloc]; done)) | (refine (at_old _ _ _ ?_).trans ?_; (simp only [World.size_alloc]; omega))))
  have hb : Below w.heap.size w W := by rw [hW]; go_grown
  have ho : W.ownsRow (w.heap.size + 1) 3 1 (.slice (some ⟨w.heap.size + 1, 0, none⟩) 0 0) 0 ((inpZ m ch 0).map (.int .i64)) := by
    refine ⟨rfl, .inr ⟨w.heap.size + 1, 0, #[], rfl, Nat.le_refl _, ?_, Nat.le_refl _, by decide, rfl, rfl⟩⟩
    rw [hW]; (repeat (first | (refine at_new _ _ _ ?_; (simp only [World.size_alloc]; done)) | (refine (at_old _ _ _ ?_).trans ?_; (simp only [World.size_alloc]; omega))))
  have HX := hid hx
  have HB := hid hb
  have HO := hid ho
  have hsz : w.heap.size + 1 < W.heap.size := by rw [hW]; simp only [World.size_alloc]; omega
  clear hW hx hb ho
  go_wp2_with fail
  go_loopw [5, 6] (fun s t wr => ∃ (k : Nat) (A' : Option Addr) (c' : Nat), k ≤ min ch.length 40 ∧ t = .int .i64 (k : Int) ∧ s = .slice A' k c' ∧ wr.ownsRow (w.heap.size + 1) 3 1 (.slice A' k c') k ((inpZ m ch k).map (.int .i64)) ∧ Below (w.heap.size + 1) W wr) (fun _ t _ => ch.length - (intOf t).toNat)
  case atStart => exact ⟨0, _, 0, Nat.zero_le _, rfl, rfl, HO.out, Below.refl _ _⟩
  case round =>
    obtain ⟨k, A', c', hk, rfl, rfl, hown, hbr⟩ := hrel
    have HOX := hid hown
    have HBX := hid hbr
    have hx := (hbr.block w.heap.size (by omega)).trans HX.out
    have x0 := block_cell hx (i := 0) rfl
    have hwl := lt_of_block hx
    have hszr := hbr.size
    clear hown hbr hx
    by_cases h1 : k < ch.length
    · by_cases h2 : k < 40
      · obtain ⟨b, o, x, rfl, _, hbl, HZ, hz0', hz1', hc0⟩ := (HC.out.keep (Keeps.of_below (HB.out.trans (HBX.out.mono (by omega))) fun _ h => h)).get h1
        have hr0 : x.tmod m.ins = x % m.ins := Int.tmod_eq_emod_of_nonneg hz0'
        have hr1 : 0 ≤ x % m.ins := Int.emod_nonneg _ (by omega)
        have hr2 : x % m.ins < m.ins := Int.emod_lt_of_pos _ (by omega)
        have hne : ¬ m.ins = 0 := by omega
        have hwx : IntKind.i64.wrap x = x := IntWalk.i64_in _ (by omega)
        obtain ⟨y, hy⟩ : ∃ y, y = x % m.ins := ⟨_, rfl⟩
        rw [← hy] at hr0 hr1 hr2
        have HY := hid hy
        clear hy
        have hki : (k : Int) < ch.length := by omega
        go_wp2_with fail
        go_region_law
          ((refine step_append_rd _ (by rfl) _ _ 34 (by rfl) (w.heap.size + 1) 3 i0 _ 1 8 Try.underlying34 hti hz0 hz1 hz2 rfl (by omega) (.slice A' k c') k _ (by rfl) (own_below HOX.out (((Drawn.n wr _).below wr.heap.size).alloc (Nat.le_refl _) _)) _ (some ⟨wr.heap.size, 0, none⟩) 1 1 _ (by rfl) (Rd.cell1 (cell_new _ _ _ _ _ _ rfl rfl)) (by simp [Value.oneCell']) (by omega) (maxLen_le (by omega)) (by simp; omega) ?_
            intro A6 c6 w6 hown6 hg6 hat6))
        all_goals
          have hb6 := Below.grown (B := w.heap.size + 1) (HBX.out.trans ((((Drawn.n wr _).below wr.heap.size).alloc (Nat.le_refl _) _).mono (by omega))) hg6 (by simp; omega) (fun k hk => (HOX.out.lt k hk).1)
          have HO6 := hid hown6
          have HB6 := hid hb6
          clear hown6 hg6 hat6 hb6
          go_wp2_with fail
          go_roundw
          case rel => exact ⟨k + 1, A6, c6, by omega, by go_num, rfl, by rw [inpZ_succ, HZ.out, ← HY.out, List.map_append]; exact HO6.out, HB6.out⟩
          case measure => simp [intOf]; omega
      · obtain rfl : k = 40 := by omega
        have hkm : min ch.length 40 = 40 := by omega
        go_wp2_with fail
        go_ret
        unfold inputsZ
        rw [hkm, inpZ_len]
        refine ⟨A', c', rfl, HB.out.trans (HBX.out.mono (by omega)), ?_⟩
        unfold RdI
        rw [inpZ_len]
        exact (Rd.own HOX.out (by omega) (fun _ h => h)).mono fun b hb _ => by have hb : w.heap.size + 1 ≤ b := hb; show w.heap.size ≤ b; omega
    · obtain rfl : k = ch.length := by omega
      have hkm : min ch.length 40 = ch.length := by omega
      go_wp2_with fail
      go_ret
      unfold inputsZ
      rw [hkm, inpZ_len]
      refine ⟨A', c', rfl, HB.out.trans (HBX.out.mono (by omega)), ?_⟩
      unfold RdI
      rw [inpZ_len]
      exact (Rd.own HOX.out (by omega) (fun _ h => h)).mono fun b hb _ => by have hb : w.heap.size + 1 ≤ b := hb; show w.heap.size ≤ b; omega
end Go.Proofs.Ytcmhginhfhiolaa
