/-
  Walks of the reference: Small, SmallCare, Equal, united.
  The search over pairs of states, plain.
-/
import Derived.Test.YtcmhginhfhiolaaZ06
import Derived.Test.YtcmhginhfhiolaaZ03
set_option linter.unusedVariables false
set_option linter.unusedSimpArgs false
namespace Go.Proofs.Ytcmhginhfhiolaa
open Go.RowKit Go.Shelf
attribute [local go_sem] cell_alloc_old

def smallB (m : Mly) : Bool := decide (m.out.length ≤ 14) && decide (m.next.length ≤ 14) && decide (m.ins ≤ 16) && allN m.out.length (fun i => decide ((m.out.getD i []).length ≤ 16)) &&
  allN m.next.length (fun i => decide ((m.next.getD i []).length ≤ 16))
def smallCareB (care : List (List Bool)) : Bool := decide (care.length ≤ 16) && allN care.length fun i => decide ((care.getD i []).length ≤ 20)
set_option maxHeartbeats 4000000 in
theorem small_any {D : Dom} (v : Value) (m : Mly) (w : World) (h : RdM w D v m) :
    Calls Try.prog 11 #[v] w fun e w' => e = .returned (.bool (smallB m)) ∧ Below w.heap.size w w' := by
  obtain ⟨Ao, co, An, cn, rfl, ho, hn⟩ := h
  have HO := hid ho
  have HN := hid hn
  have hlo := ho.len.1
  have hln := hn.len.1
  clear ho hn
  by_cases hs : m.out.length ≤ 14 ∧ m.next.length ≤ 14 ∧ m.ins ≤ 16
  · have HS := hid hs
    obtain ⟨s1, s2, s3⟩ := hs
    go_enter Try.func11, Try.ntmps11
    go_wp2_with fail
    go_loop [2, 3] (fun r t => ∃ k : Nat, k ≤ m.out.length ∧ t = .int .i64 k ∧ r = .bool false ∧ SoFar k (fun j => decide ((m.out.getD j []).length ≤ 16))) (fun _ t => m.out.length - (intOf t).toNat)
    case atStart => exact ⟨0, Nat.zero_le _, rfl, rfl, SoFar.zero _⟩
    case round =>
      obtain ⟨k, hk, rfl, rfl, hb⟩ := hrel
      have HB := hid hb
      clear hb
      by_cases hlt : k < m.out.length
      · obtain ⟨b, o, A', c', r, rfl, _, _, HX, hr, hc⟩ := HO.out.get hlt
        have hmr := hr.len.1
        clear hr
        by_cases hl : r.length ≤ 16
        · go_wp2_with fail
          go_round
          case rel => exact ⟨k + 1, by omega, by go_num, rfl, HB.out.succ (by rw [HX.out]; simp; omega)⟩
          case measure => simp [intOf]; omega
        · go_wp2_with fail
          go_ret
          exact ⟨ret_bool (by unfold smallB; rw [allN_false hlt (by rw [HX.out]; simp; omega)]; simp), by go_grown⟩
      · have HA := hid (HB.out.all (n := m.out.length) (by omega))
        clear HB
        go_wp2_with fail
        go_loop [2, 4] (fun r t => ∃ k : Nat, k ≤ m.next.length ∧ t = .int .i64 k ∧ r = .bool false ∧ SoFar k (fun j => decide ((m.next.getD j []).length ≤ 16))) (fun _ t => m.next.length - (intOf t).toNat)
        case atStart => exact ⟨0, Nat.zero_le _, rfl, rfl, SoFar.zero _⟩
        case round =>
          obtain ⟨k2, hk2, rfl, rfl, hb⟩ := hrel
          have HB := hid hb
          clear hb
          by_cases hlt2 : k2 < m.next.length
          · obtain ⟨b, o, A', c', r, rfl, _, _, HX, hr, hc⟩ := HN.out.get hlt2
            have hmr := hr.len.1
            clear hr
            by_cases hl : r.length ≤ 16
            · go_wp2_with fail
              go_round
              case rel => exact ⟨k2 + 1, by omega, by go_num, rfl, HB.out.succ (by rw [HX.out]; simp; omega)⟩
              case measure => simp [intOf]; omega
            · go_wp2_with fail
              go_ret
              exact ⟨ret_bool (by unfold smallB; rw [allN_false hlt2 (by rw [HX.out]; simp; omega)]; simp), by go_grown⟩
          · go_wp2_with fail
            go_ret
            exact ⟨ret_bool (by unfold smallB; have := HS.out; rw [HA.out, HB.out.all (by omega)]; simp; omega), by go_grown⟩
  · have HS := hid hs
    clear hs
    go_enter Try.func11, Try.ntmps11
    go_wp2_with fail
    all_goals first
      | (exfalso; have := HS.out; omega)
      | (go_ret; refine ⟨ret_bool ?_, by go_grown⟩; symm; unfold smallB; have := HS.out; simp only [Bool.and_eq_false_iff, decide_eq_false_iff_not]; omega)

set_option maxHeartbeats 2000000 in
theorem smallcare_any {D : Dom} (A : Option Addr) (c : Nat) (care : List (List Bool)) (w : World) (h : RdBB w D A c care) :
    Calls Try.prog 12 #[.slice A care.length c] w fun e w' => e = .returned (.bool (smallCareB care)) ∧ w' = w := by
  have hm := h.len.1
  have HR := hid h
  clear h
  by_cases hs : care.length ≤ 16
  · have HS := hid hs
    go_enter Try.func12, Try.ntmps12
    go_wp2_with fail
    go_loop [2, 3] (fun r t => ∃ k : Nat, k ≤ care.length ∧ t = .int .i64 k ∧ r = .bool false ∧ SoFar k (fun j => decide ((care.getD j []).length ≤ 20))) (fun _ t => care.length - (intOf t).toNat)
    case atStart => exact ⟨0, Nat.zero_le _, rfl, rfl, SoFar.zero _⟩
    case round =>
      obtain ⟨k, hk, rfl, rfl, hb⟩ := hrel
      have HB := hid hb
      clear hb
      by_cases hlt : k < care.length
      · obtain ⟨b, o, A', c', r, rfl, _, _, HX, hr, hc⟩ := HR.out.get hlt
        have hmr := hr.len.1
        clear hr
        by_cases hl : r.length ≤ 20
        · go_wp2_with fail
          go_round
          case rel => exact ⟨k + 1, by omega, by go_num, rfl, HB.out.succ (by rw [HX.out]; simp; omega)⟩
          case measure => simp [intOf]; omega
        · go_wp2_with fail
          go_ret
          exact ⟨ret_bool (by unfold smallCareB; rw [allN_false hlt (by rw [HX.out]; simp; omega)]; simp), rfl⟩
      · go_wp2_with fail
        go_ret
        exact ⟨ret_bool (by unfold smallCareB; rw [decide_eq_true HS.out, HB.out.all (by omega)]; rfl), rfl⟩
  · have HS := hid hs
    clear hs
    go_enter Try.func12, Try.ntmps12
    go_wp2_with fail
    all_goals first
      | (exfalso; have := HS.out; omega)
      | (go_ret; exact ⟨ret_bool (by unfold smallCareB; rw [decide_eq_false HS.out]; rfl), rfl⟩)

def eqMB (a b : Mly) : Bool := decide (a.ins = b.ins) && decide (a.outs = b.outs) && decide (a.start = b.start) && decide (a.out.length = b.out.length) && decide (a.next.length = b.next.length) &&
  allN a.out.length (fun i => decide (a.out.getD i [] = b.out.getD i [])) && allN a.next.length (fun i => decide (a.next.getD i [] = b.next.getD i []))
theorem rows_ext {l m : List (List Int)} (hl : l.length = m.length) (h : ∀ i, i < l.length → l.getD i [] = m.getD i []) : l = m := by
  apply List.ext_getElem hl
  intro i h1 h2
  have := h i h1
  simpa [List.getD, h1, h2] using this
theorem eqMB_iff (a b : Mly) : eqMB a b = true ↔ a = b := by
  unfold eqMB
  simp only [Bool.and_eq_true, decide_eq_true_eq]
  constructor
  · rintro ⟨⟨⟨⟨⟨⟨h1, h2⟩, h3⟩, h4⟩, h5⟩, h6⟩, h7⟩
    have e1 := rows_ext h4 fun i hi => by simpa using allN_true.1 h6 i hi
    have e2 := rows_ext h5 fun i hi => by simpa using allN_true.1 h7 i hi
    obtain ⟨i, o, s, ao, an⟩ := a
    obtain ⟨i', o', s', bo, bn⟩ := b
    dsimp only at h1 h2 h3 e1 e2
    rw [h1, h2, h3, e1, e2]
  · rintro rfl
    exact ⟨⟨⟨⟨⟨⟨rfl, rfl⟩, rfl⟩, rfl⟩, rfl⟩, allN_of fun _ _ => by simp⟩, allN_of fun _ _ => by simp⟩

set_option maxRecDepth 100000 in
set_option maxHeartbeats 4000000 in
theorem equal_any {D E : Dom} (va vb : Value) (a b : Mly) (w : World) (ha : RdM w D va a) (hb : RdM w E vb b) :
    Calls Try.prog 13 #[va, vb] w fun e w' => e = .returned (.bool (eqMB a b)) ∧ Below w.heap.size w w' := by
  obtain ⟨Ao, co, An, cn, rfl, ho, hn⟩ := ha
  obtain ⟨Bo, bo, Bn, bn, rfl, ko, kn⟩ := hb
  have HAO := hid ho.old
  have HAN := hid hn.old
  have HBO := hid ko.old
  have HBN := hid kn.old
  have l1 := ho.len.1
  have l2 := hn.len.1
  have l3 := ko.len.1
  have l4 := kn.len.1
  clear ho hn ko kn
  by_cases hs : a.ins = b.ins ∧ a.outs = b.outs ∧ a.start = b.start ∧ a.out.length = b.out.length ∧ a.next.length = b.next.length
  · have HS := hid hs
    have n1 : (a.ins != b.ins) = false := by simp [hs.1]
    have n2 : (a.outs != b.outs) = false := by simp [hs.2.1]
    have n3 : (a.start != b.start) = false := by simp [hs.2.2.1]
    have n4 : ((a.out.length : Int) != (b.out.length : Int)) = false := by simp [hs.2.2.2.1]
    have n5 : ((a.next.length : Int) != (b.next.length : Int)) = false := by simp [hs.2.2.2.2]
    clear hs
    go_enter Try.func13, Try.ntmps13
    go_wp2_with fail
    refine wp_gen fun W1 hW1 => ?_
    have hb1 : Below w.heap.size w W1 := by rw [hW1]; go_grown
    have hx1 : W1.heap[w.heap.size]? = some (.cells #[.int .i64 a.ins, .int .i64 a.outs, .int .i64 a.start, .slice Ao a.out.length co, .slice An a.next.length cn] 24 (0, 0)) := by
      rw [hW1]; (repeat (first | (refine at_new _ _ _ ?_; (simp only [World.size_alloc]; done)) | (refine (at_old _ _ _ ?_).trans ?_; (simp only [World.size_alloc]; omega))))
    have hx2 : W1.heap[w.heap.size + 1]? = some (.cells #[.int .i64 b.ins, .int .i64 b.outs, .int .i64 b.start, .slice Bo b.out.length bo, .slice Bn b.next.length bn] 24 (0, 0)) := by
      rw [hW1]; (repeat (first | (refine at_new _ _ _ ?_; (simp only [World.size_alloc]; done)) | (refine (at_old _ _ _ ?_).trans ?_; (simp only [World.size_alloc]; omega))))
    have HB1 := hid hb1
    have HX1 := hid hx1
    have HX2 := hid hx2
    clear hW1 hb1 hx1 hx2
    go_loopw [5] (fun t wr => ∃ k : Nat, k ≤ a.out.length ∧ t = .int .i64 k ∧ SoFar k (fun i => decide (a.out.getD i [] = b.out.getD i [])) ∧ Drawn W1 wr) (fun t _ => a.out.length - (intOf t).toNat)
    case atStart => exact ⟨0, Nat.zero_le _, rfl, SoFar.zero _, Drawn.refl _⟩
    case round =>
      obtain ⟨k, hk, rfl, hso, hd⟩ := hrel
      have hbr := HB1.out.trans (hd.below _)
      have HBR := hid hbr
      have k1 := ((hd.below W1.heap.size).block _ (lt_of_block HX1.out)).trans HX1.out
      have k2 := ((hd.below W1.heap.size).block _ (lt_of_block HX2.out)).trans HX2.out
      have x3 := block_cell k1 (i := 3) rfl
      have y3 := block_cell k2 (i := 3) rfl
      have x4 := block_cell k1 (i := 4) rfl
      have HSO := hid hso
      clear hso k1 k2 hbr
      by_cases hlt : k < a.out.length
      · have hlt2 : k < b.out.length := by have := HS.out.2.2.2.1; omega
        obtain ⟨b1, o1, A1, c1, r1, rfl, _, had1, HR1, hr1, hc1⟩ := (HAO.out.keep (Keeps.of_below HBR.out fun _ h => h)).get hlt
        obtain ⟨b2, o2, A2, c2, r2, rfl, _, had2, HR2, hr2, hc2⟩ := (HBO.out.keep (Keeps.of_below HBR.out fun _ h => h)).get hlt2
        have hki1 : (k : Int) < a.out.length := by omega
        have hki2 : (k : Int) < b.out.length := by omega
        have HI : Hid (∀ n, Calls Try.prog 25 #[.slice A1 r1.length c1, .slice A2 r2.length c2] (wr.drewN n) fun e w' => e = .returned (.bool (decide (r1 = r2))) ∧ Drawn (wr.drewN n) w') := hid fun n => ints_any A1 A2 c1 c2 r1 r2 (wr.drewN n) (hr1.keep (Drawn.n wr n).keeps) (hr2.keep (Drawn.n wr n).keeps)
        have m1 := hr1.len.1
        have m2 := hr2.len.1
        clear hr1 hr2
        by_cases he : r1 = r2
        · have HI2 : Hid (∀ n, Calls Try.prog 25 #[.slice A1 r1.length c1, .slice A2 r2.length c2] (wr.drewN n) fun e w' => e = .returned (.bool true) ∧ ∃ m, w' = (wr.drewN n).drewN m) := hid fun n => by have := HI.out n; rw [decide_eq_true he] at this; exact this
          have HE := hid he
          clear he
          go_wp2_with fail
          go_quiet ((go_at_call 25; exact Calls.quiet_of (HI2.out _)))
          go_wp2_with fail
          go_roundw
          case rel => exact ⟨k + 1, by omega, by go_num, HSO.out.succ (by rw [HR1.out, HR2.out]; exact decide_eq_true HE.out), hd.drewN _⟩
          case measure => simp [intOf]; omega
        · have HI2 : Hid (∀ n, Calls Try.prog 25 #[.slice A1 r1.length c1, .slice A2 r2.length c2] (wr.drewN n) fun e w' => e = .returned (.bool false) ∧ ∃ m, w' = (wr.drewN n).drewN m) := hid fun n => by have := HI.out n; rw [decide_eq_false he] at this; exact this
          have HE := hid he
          clear he
          go_wp2_with fail
          go_quiet ((go_at_call 25; exact Calls.quiet_of (HI2.out _)))
          go_wp2_with fail
          go_ret
          exact ⟨ret_bool (by unfold eqMB; rw [allN_false hlt (by rw [HR1.out, HR2.out]; exact decide_eq_false HE.out)]; simp), below_drewN HBR.out _⟩
      · have HOUT := hid (HSO.out.all (n := a.out.length) (by omega))
        clear HSO
        go_wp2_with fail
        obtain ⟨wz, rfl⟩ : ∃ wz : World, wz = wr := ⟨_, rfl⟩
        go_loopw [6] (fun t wr => ∃ k : Nat, k ≤ a.next.length ∧ t = .int .i64 k ∧ SoFar k (fun i => decide (a.next.getD i [] = b.next.getD i [])) ∧ Drawn W1 wr) (fun t _ => a.next.length - (intOf t).toNat)
        case atStart => exact ⟨0, Nat.zero_le _, rfl, SoFar.zero _, hd⟩
        case round =>
          clear hd
          obtain ⟨k, hk, rfl, hso, hd⟩ := hrel
          have hbr := HB1.out.trans (hd.below _)
          have HBR := hid hbr
          have k1 := ((hd.below W1.heap.size).block _ (lt_of_block HX1.out)).trans HX1.out
          have k2 := ((hd.below W1.heap.size).block _ (lt_of_block HX2.out)).trans HX2.out
          have x4 := block_cell k1 (i := 4) rfl
          have y4 := block_cell k2 (i := 4) rfl
          have HSO := hid hso
          clear hso k1 k2 hbr
          by_cases hlt : k < a.next.length
          · have hlt2 : k < b.next.length := by have := HS.out.2.2.2.2; omega
            obtain ⟨b1, o1, A1, c1, r1, rfl, _, had1, HR1, hr1, hc1⟩ := (HAN.out.keep (Keeps.of_below HBR.out fun _ h => h)).get hlt
            obtain ⟨b2, o2, A2, c2, r2, rfl, _, had2, HR2, hr2, hc2⟩ := (HBN.out.keep (Keeps.of_below HBR.out fun _ h => h)).get hlt2
            have hki1 : (k : Int) < a.next.length := by omega
            have hki2 : (k : Int) < b.next.length := by omega
            have HI : Hid (∀ n, Calls Try.prog 25 #[.slice A1 r1.length c1, .slice A2 r2.length c2] (wr.drewN n) fun e w' => e = .returned (.bool (decide (r1 = r2))) ∧ Drawn (wr.drewN n) w') := hid fun n => ints_any A1 A2 c1 c2 r1 r2 (wr.drewN n) (hr1.keep (Drawn.n wr n).keeps) (hr2.keep (Drawn.n wr n).keeps)
            have m1 := hr1.len.1
            have m2 := hr2.len.1
            clear hr1 hr2
            by_cases he : r1 = r2
            · have HI2 : Hid (∀ n, Calls Try.prog 25 #[.slice A1 r1.length c1, .slice A2 r2.length c2] (wr.drewN n) fun e w' => e = .returned (.bool true) ∧ ∃ m, w' = (wr.drewN n).drewN m) := hid fun n => by have := HI.out n; rw [decide_eq_true he] at this; exact this
              have HE := hid he
              clear he
              go_wp2_with fail
              go_quiet ((go_at_call 25; exact Calls.quiet_of (HI2.out _)))
              go_wp2_with fail
              go_roundw
              case rel => exact ⟨k + 1, by omega, by go_num, HSO.out.succ (by rw [HR1.out, HR2.out]; exact decide_eq_true HE.out), hd.drewN _⟩
              case measure => simp [intOf]; omega
            · have HI2 : Hid (∀ n, Calls Try.prog 25 #[.slice A1 r1.length c1, .slice A2 r2.length c2] (wr.drewN n) fun e w' => e = .returned (.bool false) ∧ ∃ m, w' = (wr.drewN n).drewN m) := hid fun n => by have := HI.out n; rw [decide_eq_false he] at this; exact this
              have HE := hid he
              clear he
              go_wp2_with fail
              go_quiet ((go_at_call 25; exact Calls.quiet_of (HI2.out _)))
              go_wp2_with fail
              go_ret
              exact ⟨ret_bool (by unfold eqMB; rw [allN_false hlt (by rw [HR1.out, HR2.out]; exact decide_eq_false HE.out)]; simp), below_drewN HBR.out _⟩
          · go_wp2_with fail
            go_ret
            exact ⟨ret_bool (by unfold eqMB; have := HS.out; rw [HOUT.out, HSO.out.all (by omega), decide_eq_true this.1, decide_eq_true this.2.1, decide_eq_true this.2.2.1, decide_eq_true this.2.2.2.1, decide_eq_true this.2.2.2.2]; rfl), HBR.out⟩
  · have HS := hid hs
    clear hs
    have hfalse : eqMB a b = false := by
      cases h : eqMB a b
      · rfl
      · exact absurd (by obtain rfl := (eqMB_iff a b).1 h; exact ⟨rfl, rfl, rfl, rfl, rfl⟩) HS.out
    have HF := hid hfalse
    clear hfalse
    go_enter Try.func13, Try.ntmps13
    go_wp2_with fail
    all_goals first
      | (go_ret; exact ⟨ret_bool HF.out.symm, by go_grown⟩)
      | (exfalso
         have h1 : a.ins = b.ins := by assumption
         have h2 : a.outs = b.outs := by assumption
         have h3 : a.start = b.start := by assumption
         have h4 : (a.out.length : Int) = (b.out.length : Int) := by assumption
         have h5 : ((a.next.length : Int) != (b.next.length : Int)) = false := by assumption
         have h6 : (a.next.length : Int) = (b.next.length : Int) := by simpa using h5
         exact HS.out ⟨h1, h2, h3, by omega, by omega⟩)

/-- Two classes are united. -/
def unitedZ (l : List Int) (a b : Int) : List Int := l.map fun x => if x = b then a else x
theorem unitedZ_take (l : List Int) (a b : Int) {k : Nat} (h : k < l.length) : unitedZ (l.take (k + 1)) a b = unitedZ (l.take k) a b ++ [if l.getD k 0 = b then a else l.getD k 0] := by
  unfold unitedZ
  rw [take_succ_getD l 0 h, List.map_append]; rfl
theorem unitedZ_len (l : List Int) (a b : Int) : (unitedZ l a b).length = l.length := by simp [unitedZ]

set_option maxHeartbeats 4000000 in
theorem united_any {D : Dom} (A : Option Addr) (c : Nat) (l : List Int) (a b : Int) (w : World) (h : RdI w D A c l) (hl : l.length ≤ 10000) :
    Calls Try.prog 47 #[.slice A l.length c, .int .i64 a, .int .i64 b] w fun e w' => ∃ A' c', e = .returned (.slice A' (unitedZ l a b).length c') ∧ Below w.heap.size w w' ∧ RdI w' (fun k => w.heap.size ≤ k) A' c' (unitedZ l a b) := by
  obtain ⟨i0, hti, hz0, hz1, hz2⟩ := info_parts int_info
  have HR := hid h.old
  clear h
  go_enter Try.func47, Try.ntmps47
  go_wp2_with fail
  go_loopw [7, 8] (fun s t wr => ∃ (k : Nat) (B : Option Addr) (d : Nat), k ≤ l.length ∧ t = .int .i64 (k : Int) ∧ s = .slice B k d ∧ wr.ownsRow w.heap.size 3 1 (.slice B k d) k ((unitedZ (l.take k) a b).map (.int .i64)) ∧ Below w.heap.size w wr) (fun _ t _ => l.length - (intOf t).toNat)
  case atStart => exact ⟨0, none, 0, Nat.zero_le _, rfl, rfl, ⟨rfl, .inl ⟨rfl, rfl⟩⟩, Below.refl _ _⟩
  case round =>
    obtain ⟨k, B, d, hk, rfl, rfl, hown, hb⟩ := hrel
    have HO := hid hown
    have HB := hid hb
    have hsz := hb.size
    clear hown hb
    by_cases hlt : k < l.length
    · obtain ⟨b1, o1, x, rfl, _, had, HX, hc⟩ := (HR.out.keep (Keeps.of_below HB.out fun _ h => h)).get hlt
      have hki : (k : Int) < l.length := by omega
      have HU := hid (unitedZ_take l a b hlt)
      by_cases he : x = b
      · have hx1 : (x == b) = true := beq_iff_eq.2 he
        have HE := hid he
        clear he
        go_wp2_with (at_builtin; go_must (refine wpList_append_rd _ rfl (.tmp 21) (.tmp 23) 34 rfl w.heap.size 3 i0 _ 1 8 Try.underlying34 hti hz0 hz1 hz2 rfl (by omega) (.slice B k d) k _ rfl (HO.out.alloc _) _ (some ⟨wr.heap.size, 0, none⟩) 1 1 _ rfl (Rd.cell1 (cell_new wr _ _ _ _ _ rfl rfl)) (by simp [Value.oneCell']) (by omega) (maxLen_le (by omega)) (by simp; omega) ?_); intro A5 c5 w5 hown5 hg5 hat5)
        have hb5 := Below.grown (B := w.heap.size) (HB.out.trans ((show Below wr.heap.size wr _ from by go_grown).mono hsz)) hg5 (by simp; omega) (fun k hk => (HO.out.lt k hk).1)
        have HO5 := hid hown5
        have HB5 := hid hb5
        clear hown5 hg5 hat5 hb5
        go_roundw
        case rel => exact ⟨k + 1, A5, c5, by omega, by go_num, rfl, by rw [HU.out, HX.out, if_pos HE.out, List.map_append]; exact HO5.out, HB5.out⟩
        case measure => simp [intOf]; omega
      · have hx1 : (x == b) = false := beq_eq_false_iff_ne.2 he
        have HE := hid he
        clear he
        go_wp2_with (at_builtin; go_must (refine wpList_append_rd _ rfl (.tmp 25) (.tmp 30) 34 rfl w.heap.size 3 i0 _ 1 8 Try.underlying34 hti hz0 hz1 hz2 rfl (by omega) (.slice B k d) k _ rfl (HO.out.alloc _) _ (some ⟨wr.heap.size, 0, none⟩) 1 1 _ rfl (Rd.cell1 (cell_new wr _ _ _ _ _ rfl rfl)) (by simp [Value.oneCell']) (by omega) (maxLen_le (by omega)) (by simp; omega) ?_); intro A5 c5 w5 hown5 hg5 hat5)
        have hb5 := Below.grown (B := w.heap.size) (HB.out.trans ((show Below wr.heap.size wr _ from by go_grown).mono hsz)) hg5 (by simp; omega) (fun k hk => (HO.out.lt k hk).1)
        have HO5 := hid hown5
        have HB5 := hid hb5
        clear hown5 hg5 hat5 hb5
        go_roundw
        case rel => exact ⟨k + 1, A5, c5, by omega, by go_num, rfl, by rw [HU.out, HX.out, if_neg HE.out, List.map_append]; exact HO5.out, HB5.out⟩
        case measure => simp [intOf]; omega
    · have hke : k = l.length := by omega
      have hz : (unitedZ l a b).length = k := by rw [unitedZ_len, hke]
      have hrow := HO.out
      rw [hke, List.take_length] at hrow
      have HROW := hid hrow
      have HZ := hid hz
      have HKE := hid hke
      clear hke hz hrow
      go_wp2_with fail
      go_ret
      rw [HZ.out]
      refine ⟨B, d, rfl, HB.out, ?_⟩
      unfold RdI
      rw [unitedZ_len]
      exact Rd.own HROW.out (by omega) (fun _ h => h)
end Go.Proofs.Ytcmhginhfhiolaa
set_option linter.unusedVariables false
set_option linter.unusedSimpArgs false
namespace Go.Proofs.Ytcmhginhfhiolaa

/-- What is asked of two controllers: well-formed, of the same shape, the same outputs. -/
def SameP (a b : Mly) : Prop := mealyB a = true ∧ mealyB b = true ∧ a.ins = b.ins ∧ a.outs = b.outs ∧ Sim (wholeM a) (wholeM b) a.start.toNat b.start.toNat

/-- The moves from p by x have the same output, and lead to a pair of L. -/
def StepIn (A B : Mac) (L : List (Nat × Nat)) (p : Nat × Nat) (x : Nat) : Prop := ∃ o t t', A.mv p.1 x = some (o, t) ∧ B.mv p.2 x = some (o, t') ∧ (t, t') ∈ L
theorem StepIn.mono {A B : Mac} {L L' : List (Nat × Nat)} {p : Nat × Nat} {x : Nat} (h : StepIn A B L p x) (hs : ∀ p ∈ L, p ∈ L') : StepIn A B L' p x :=
  let ⟨o, t, t', h1, h2, h3⟩ := h
  ⟨o, t, t', h1, h2, hs _ h3⟩
/-- The list of pairs while it grows: the moves of the first i are done, and of number i those by the first x inputs. -/
structure Bfs (A B : Mac) (L : List (Nat × Nat)) (i x : Nat) : Prop where
  nd : L.Nodup
  rng : ∀ p ∈ L, p.1 < A.size ∧ p.2 < B.size
  st : L.head? = some (A.start, B.start)
  done : ∀ j y, j < i → j < L.length → y < A.ins → StepIn A B L (L.getD j (0, 0)) y
  cur : ∀ y, y < x → StepIn A B L (L.getD i (0, 0)) y
  sim : Sim A B A.start B.start → ∀ p ∈ L, Sim A B p.1 p.2
section
variable {A B : Mac} {L : List (Nat × Nat)} {i x : Nat}
theorem Bfs.init (hA : A.start < A.size) (hB : B.start < B.size) : Bfs A B [(A.start, B.start)] 0 0 :=
  ⟨by simp, by simp; exact ⟨hA, hB⟩, rfl, fun j _ h => absurd h (Nat.not_lt_zero _), fun _ h => absurd h (Nat.not_lt_zero _), fun h p hp => by
    rw [List.mem_singleton] at hp
    rw [hp]; exact h⟩
theorem pair_mem (L : List (Nat × Nat)) {i : Nat} (h : i < L.length) : L.getD i (0, 0) ∈ L := by simp [List.getD, h]
theorem pair_app (L : List (Nat × Nat)) (p : Nat × Nat) {i : Nat} (h : i < L.length) : (L ++ [p]).getD i (0, 0) = L.getD i (0, 0) := by simp [List.getD, List.getElem?_append, h]
theorem nodup_pairs {L : List (Nat × Nat)} {n m : Nat} (h : L.Nodup) (hr : ∀ p ∈ L, p.1 < n ∧ p.2 < m) : L.length ≤ n * m := by
  have h2 : (L.map fun p => p.1 * m + p.2).Nodup := by
    unfold List.Nodup
    rw [List.pairwise_map]
    refine List.Pairwise.imp_of_mem ?_ h
    intro a b ha hb hne e
    apply hne
    have ra := hr a ha
    have rb := hr b hb
    have e1 : (a.1 * m + a.2) / m = (b.1 * m + b.2) / m := by rw [e]
    have e2 : (a.1 * m + a.2) % m = (b.1 * m + b.2) % m := by rw [e]
    rw [Nat.mul_comm a.1, Nat.mul_comm b.1, Nat.mul_add_div (by omega), Nat.mul_add_div (by omega), Nat.div_eq_of_lt ra.2, Nat.div_eq_of_lt rb.2] at e1
    rw [Nat.mul_comm a.1, Nat.mul_comm b.1, Nat.mul_add_mod, Nat.mul_add_mod, Nat.mod_eq_of_lt ra.2, Nat.mod_eq_of_lt rb.2] at e2
    exact Prod.ext (by omega) e2
  have h3 := nodup_lt h2 (n := n * m) fun q hq => by
    obtain ⟨p, hp, rfl⟩ := List.mem_map.1 hq
    have := hr p hp
    calc p.1 * m + p.2 < p.1 * m + m := by omega
      _ = (p.1 + 1) * m := by rw [Nat.add_mul, Nat.one_mul]
      _ ≤ n * m := Nat.mul_le_mul_right _ (by omega)
  simpa using h3
theorem Bfs.len (h : Bfs A B L i x) : L.length ≤ A.size * B.size := nodup_pairs h.nd h.rng
/-- A move to a pair that is there. -/
theorem Bfs.old (h : Bfs A B L i x) {o : Int} {t t' : Nat} (h1 : A.mv (L.getD i (0, 0)).1 x = some (o, t)) (h2 : B.mv (L.getD i (0, 0)).2 x = some (o, t')) (hm : (t, t') ∈ L) : Bfs A B L i (x + 1) :=
  ⟨h.nd, h.rng, h.st, h.done, fun y hy => by
    by_cases e : y < x
    · exact h.cur y e
    · obtain rfl : y = x := by omega
      exact ⟨o, t, t', h1, h2, hm⟩, h.sim⟩
/-- A move to a new pair. -/
theorem Bfs.new (h : Bfs A B L i x) (hA : A.Ok) (hB : B.Ok) (hi : i < L.length) (hx : x < A.ins) (hins : B.ins = A.ins) {o : Int} {t t' : Nat} (h1 : A.mv (L.getD i (0, 0)).1 x = some (o, t)) (h2 : B.mv (L.getD i (0, 0)).2 x = some (o, t')) (hm : (t, t') ∉ L) : Bfs A B (L ++ [(t, t')]) i (x + 1) := by
  have hp := pair_mem L hi
  have hr := h.rng _ hp
  have hsub : ∀ p ∈ L, p ∈ L ++ [(t, t')] := fun p hp => List.mem_append_left _ hp
  refine ⟨?_, fun p hp' => ?_, ?_, fun j y hj hjl hy => ?_, fun y hy => ?_, fun hs p hp' => ?_⟩
  · rw [List.nodup_append]
    exact ⟨h.nd, by simp, fun a ha b hb e => by
      rw [List.mem_singleton] at hb
      subst hb; subst e; exact hm ha⟩
  · rw [List.mem_append, List.mem_singleton] at hp'
    rcases hp' with hp' | rfl
    · exact h.rng p hp'
    · exact ⟨hA.tgt _ x o t hr.1 hx h1, hB.tgt _ x o t' hr.2 (by omega) h2⟩
  · rw [List.head?_append, h.st]; rfl
  · rw [pair_app L _ (by omega)]
    exact (h.done j y hj (by omega) hy).mono hsub
  · rw [pair_app L _ hi]
    by_cases e : y < x
    · exact (h.cur y e).mono hsub
    · obtain rfl : y = x := by omega
      exact ⟨o, t, t', h1, h2, by simp⟩
  · rw [List.mem_append, List.mem_singleton] at hp'
    rcases hp' with hp' | rfl
    · exact h.sim hs p hp'
    · exact (sim_step (h.sim hs _ hp) hx h1 h2).2
/-- The next pair. -/
theorem Bfs.next (h : Bfs A B L i A.ins) (hi : i < L.length) : Bfs A B L (i + 1) 0 :=
  ⟨h.nd, h.rng, h.st, fun j y hj hjl hy => by
    by_cases e : j < i
    · exact h.done j y e hjl hy
    · obtain rfl : j = i := by omega
      exact h.cur y hy, fun _ hy => absurd hy (Nat.not_lt_zero _), h.sim⟩
theorem Bfs.all (h : Bfs A B L i x) (hi : L.length ≤ i) : Sim A B A.start B.start := by
  refine ⟨fun p q => (p, q) ∈ L, fun p q hpq y hy => ?_, ?_⟩
  · obtain ⟨j, hj, e⟩ := List.getElem_of_mem hpq
    have e2 : L.getD j (0, 0) = (p, q) := by simp [List.getD, hj, e]
    have := h.done j y (by omega) hj hy
    rw [e2] at this
    exact this
  · have := h.st
    rw [List.head?_eq_getElem?] at this
    exact List.mem_of_getElem? this
/-- Other outputs. -/
theorem Bfs.no (h : Bfs A B L i x) (hi : i < L.length) (hx : x < A.ins) {o o' : Int} {t t' : Nat} (h1 : A.mv (L.getD i (0, 0)).1 x = some (o, t)) (h2 : B.mv (L.getD i (0, 0)).2 x = some (o', t')) (hne : o ≠ o') : ¬ Sim A B A.start B.start :=
  fun hs => hne (sim_step (h.sim hs _ (pair_mem L hi)) hx h1 h2).1
end
end Go.Proofs.Ytcmhginhfhiolaa
