/-
  Walks of the reference: count, keys, Name, node, nodes.
-/
import Derived.Test.YtahgbgniaiccbaaGreatDoorZKB
import Derived.Test.YtahgbgniaiccbaaGreatDoorZ17
set_option linter.unusedVariables false
set_option linter.unusedSimpArgs false
namespace Go.Proofs.YtahgbgniaiccbaaGreatDoor
open Go.RowKit Go.Shelf
attribute [local go_sem] cell_alloc_old

theorem ret_count {o a b : Int} {q : Bool} (h : countZ o = (a, b, q)) : Ending.returned (.tuple #[.int .i64 a, .int .i64 b, .bool q]) = Ending.returned (.tuple #[.int .i64 (countZ o).1, .int .i64 (countZ o).2.1, .bool (countZ o).2.2]) := by rw [h]
set_option maxHeartbeats 4000000 in
theorem rcount_any (o : Int) (w : World) : Calls Tryz.prog 83 #[.int .i64 o] w fun e w' => e = .returned (.tuple #[.int .i64 (countZ o).1, .int .i64 (countZ o).2.1, .bool (countZ o).2.2]) ∧ w' = w := by
  go_enter Tryz.func83, Tryz.ntmps83
  go_wp2
  all_goals first
    | (refine bodyPost_ret (v := .tuple #[.int .i64 0, .int .i64 (0), .bool true]) ?_ rfl ⟨ret_count ?_, rfl⟩; (focus (simp [results, Tryz.results83, go_sem]; done)); simp only [beq_iff_eq, beq_eq_false_iff_ne, ne_eq] at *; unfold countZ; (repeat' split) <;> first | rfl | (exfalso; omega))
    | (refine bodyPost_ret (v := .tuple #[.int .i64 1, .int .i64 (1), .bool true]) ?_ rfl ⟨ret_count ?_, rfl⟩; (focus (simp [results, Tryz.results83, go_sem]; done)); simp only [beq_iff_eq, beq_eq_false_iff_ne, ne_eq] at *; unfold countZ; (repeat' split) <;> first | rfl | (exfalso; omega))
    | (refine bodyPost_ret (v := .tuple #[.int .i64 2, .int .i64 (2), .bool true]) ?_ rfl ⟨ret_count ?_, rfl⟩; (focus (simp [results, Tryz.results83, go_sem]; done)); simp only [beq_iff_eq, beq_eq_false_iff_ne, ne_eq] at *; unfold countZ; (repeat' split) <;> first | rfl | (exfalso; omega))
    | (refine bodyPost_ret (v := .tuple #[.int .i64 2, .int .i64 (-1), .bool true]) ?_ rfl ⟨ret_count ?_, rfl⟩; (focus (simp [results, Tryz.results83, go_sem]; done)); simp only [beq_iff_eq, beq_eq_false_iff_ne, ne_eq] at *; unfold countZ; (repeat' split) <;> first | rfl | (exfalso; omega))
    | (refine bodyPost_ret (v := .tuple #[.int .i64 0, .int .i64 (0), .bool false]) ?_ rfl ⟨ret_count ?_, rfl⟩; (focus (simp [results, Tryz.results83, go_sem]; done)); simp only [beq_iff_eq, beq_eq_false_iff_ne, ne_eq] at *; unfold countZ; (repeat' split) <;> first | rfl | (exfalso; omega))
theorem rkeys_any (w : World) : Calls Tryz.prog 96 #[] w fun e w' => ∃ b, e = .returned (.slice (some ⟨b, 0, none⟩) 10 10) ∧ b < w'.heap.size ∧ (∀ k, k < 10 → w'.cell? ⟨b, k, none⟩ = some (.string (keysL.getD k ByteArray.empty))) ∧ Below w.heap.size w w' := by
  go_enter Tryz.func96, Tryz.ntmps96
  go_wp2_with fail
  refine bodyPost_gen fun W hW => ?_
  have hb : Below w.heap.size w W := by rw [hW]; go_grown
  have hc : W.heap[w.heap.size]? = some (.cells #[.string ⟨#[105, 110, 112, 117, 116]⟩, .string ⟨#[111, 117, 116, 112, 117, 116]⟩, .string ⟨#[112, 97, 114, 116]⟩, .string ⟨#[97, 115, 115, 117, 109, 101]⟩, .string ⟨#[103, 117, 97, 114, 97, 110, 116, 101, 101]⟩, .string ⟨#[116, 114, 117, 101]⟩, .string ⟨#[102, 97, 108, 115, 101]⟩, .string ⟨#[97, 100, 100]⟩, .string ⟨#[100, 114, 111, 112]⟩, .string ⟨#[114, 101, 112, 108, 97, 99, 101]⟩] 9 (0, 0)) := by rw [hW]; exact heap_alloc_new w _
  clear hW
  go_ret
  refine ⟨w.heap.size, rfl, lt_of_block hc, fun k hk => ?_, hb⟩
  match k, hk with
  | 0, _ | 1, _ | 2, _ | 3, _ | 4, _ | 5, _ | 6, _ | 7, _ | 8, _ | 9, _ => exact block_cell hc rfl
theorem name_bad {s : ByteArray} {i : Nat} (hi : i < s.size) (h : okAt s i = false) : nameB s = false := by
  unfold nameB
  rw [allN_false hi h]; simp
theorem okAt_zero {s : ByteArray} : okAt s 0 = lowZ (byteZ s 0) := by unfold okAt; simp
theorem okAt_low {s : ByteArray} {i : Nat} (h1 : 97 ≤ byteZ s i) (h2 : byteZ s i ≤ 122) : okAt s i = true := by
  unfold okAt lowZ; rw [decide_eq_true h1, decide_eq_true h2]; rfl
set_option maxRecDepth 100000 in
set_option maxHeartbeats 8000000 in
theorem rname_any (s : ByteArray) (w : World) (h0w : 0 < w.heap.size) : Calls Tryz.prog 84 #[.string s] w fun e w' => e = .returned (.bool (nameB s)) ∧ Below w.heap.size w w' := by
  by_cases hs : s.size < 1
  · have HR := hid (name_short hs)
    have hsi : (s.size : Int) < 1 := by omega
    have hd : decide ((s.size : Int) < 1) = true := decide_eq_true hsi
    clear hs
    go_enter Tryz.func84, Tryz.ntmps84
    go_wp2_with fail
    go_ret
    rw [HR.out]
    exact ⟨rfl, by go_grown⟩
  by_cases hl : 12 < s.size
  · have HR := hid (name_long hl)
    have hsi : ¬ (s.size : Int) < 1 := by omega
    have hli : 12 < (s.size : Int) := by omega
    have hd : decide ((s.size : Int) < 1) = false := decide_eq_false hsi
    have hd2 : decide (12 < (s.size : Int)) = true := decide_eq_true hli
    clear hs hl
    go_enter Tryz.func84, Tryz.ntmps84
    go_wp2_with fail
    go_ret
    rw [HR.out]
    exact ⟨rfl, by go_grown⟩
  have hsi : ¬ (s.size : Int) < 1 := by omega
  have hli : ¬ 12 < (s.size : Int) := by omega
  have hd : decide ((s.size : Int) < 1) = false := decide_eq_false hsi
  have hd2 : decide (12 < (s.size : Int)) = false := decide_eq_false hli
  have hlt0 : 0 < s.size := by omega
  have hii0 : (0 : Int) < s.size := by omega
  have HS := hid hs
  have HL := hid hl
  have HX0 := hid (show byteZ s 0 = ((s[0]'hlt0).toNat : Int) by unfold byteZ; simp [hlt0])
  clear hs hl
  by_cases a0 : ((s[0]'hlt0).toNat : Int) < 97
  · have e0 : decide (((s[0]'hlt0).toNat : Int) < 97) = true := decide_eq_true a0
    have HR := hid (name_bad hlt0 (by rw [okAt_zero, HX0.out]; unfold lowZ; rw [decide_eq_false (show ¬ (97 : Int) ≤ ((s[0]'hlt0).toNat : Int) by omega)]; rfl))
    go_enter Tryz.func84, Tryz.ntmps84
    go_wp2_with fail
    go_ret
    rw [HR.out]
    exact ⟨rfl, by go_grown⟩
  have e0 : decide (((s[0]'hlt0).toNat : Int) < 97) = false := decide_eq_false a0
  by_cases a1 : 122 < ((s[0]'hlt0).toNat : Int)
  · have e1 : decide (122 < ((s[0]'hlt0).toNat : Int)) = true := decide_eq_true a1
    have HR := hid (name_bad hlt0 (by rw [okAt_zero, HX0.out]; unfold lowZ; rw [decide_eq_false (show ¬ ((s[0]'hlt0).toNat : Int) ≤ (122 : Int) by omega)]; simp))
    go_enter Tryz.func84, Tryz.ntmps84
    go_wp2_with fail
    go_ret
    rw [HR.out]
    exact ⟨rfl, by go_grown⟩
  have e1 : decide (122 < ((s[0]'hlt0).toNat : Int)) = false := decide_eq_false a1
  have HLOW := hid (And.intro (show 97 ≤ ((s[0]'hlt0).toNat : Int) by omega) (show ((s[0]'hlt0).toNat : Int) ≤ 122 by omega))
  go_enter Tryz.func84, Tryz.ntmps84
  go_upto_region 3 with (fail)
  clear a0 a1 e0 e1
  go_wp2_with fail
  go_loopw [3] (fun q wr => ∃ i : Nat, i ≤ s.size ∧ q = .int .i64 (i : Int) ∧ Drawn w wr ∧ SoFar i (okAt s)) (fun q _ => s.size - (intOf q).toNat)
  case atStart => exact ⟨0, Nat.zero_le _, rfl, Drawn.refl _, SoFar.zero _⟩
  case round =>
    obtain ⟨i, hi, rfl, hdr, hsf⟩ := hrel
    have HDR := hid hdr
    have HSF := hid hsf
    clear hsf hdr
    by_cases hlt : i < s.size
    · have hii : (i : Int) < s.size := by omega
      have HX := hid (show byteZ s i = ((s[i]'hlt).toNat : Int) by unfold byteZ; simp [hlt])
      by_cases hz : i = 0
      · subst hz
        have a1 : 97 ≤ ((s[0]'hlt).toNat : Int) := HLOW.out.1
        have a2 : ((s[0]'hlt).toNat : Int) ≤ 122 := HLOW.out.2
        have d1 := decide_eq_true a1
        have d2 := decide_eq_true a2
        have HOK := hid (okAt_low (s := s) (i := 0) (by rw [HX.out]; exact a1) (by rw [HX.out]; exact a2))
        go_wp2_with fail
        go_roundw
        case rel => exact ⟨0 + 1, by omega, by go_num, HDR.out, HSF.out.succ HOK.out⟩
        case measure => simp [intOf]; omega
      have h0 : 0 < i := by omega
      have HH0 := hid h0
      clear hz h0
      by_cases a1 : 97 ≤ ((s[i]'hlt).toNat : Int)
      · have d1 : decide (97 ≤ ((s[i]'hlt).toNat : Int)) = true := decide_eq_true a1
        by_cases a2 : ((s[i]'hlt).toNat : Int) ≤ 122
        · have d2 : decide (((s[i]'hlt).toNat : Int) ≤ 122) = true := decide_eq_true a2
          have HOK := hid (show okAt s i = true by unfold okAt lowZ digZ; rw [HX.out]; have := HH0.out; simp_all)
          go_wp2_with fail
          go_roundw
          case rel => exact ⟨i + 1, by omega, by go_num, HDR.out, HSF.out.succ HOK.out⟩
          case measure => simp [intOf]; omega
        · have d2 : decide (((s[i]'hlt).toNat : Int) ≤ 122) = false := decide_eq_false a2
          by_cases b1 : 48 ≤ ((s[i]'hlt).toNat : Int)
          · have g1 : decide (48 ≤ ((s[i]'hlt).toNat : Int)) = true := decide_eq_true b1
            by_cases b2 : ((s[i]'hlt).toNat : Int) ≤ 57
            · have g2 : decide (((s[i]'hlt).toNat : Int) ≤ 57) = true := decide_eq_true b2
              have HOK := hid (show okAt s i = true by unfold okAt lowZ digZ; rw [HX.out]; have := HH0.out; simp_all)
              go_wp2_with fail
              go_roundw
              case rel => exact ⟨i + 1, by omega, by go_num, HDR.out, HSF.out.succ HOK.out⟩
              case measure => simp [intOf]; omega
            · have g2 : decide (((s[i]'hlt).toNat : Int) ≤ 57) = false := decide_eq_false b2
              by_cases b3 : ((s[i]'hlt).toNat : Int) = 95
              · have g3 : (((s[i]'hlt).toNat : Int) == 95) = true := beq_iff_eq.2 b3
                have HOK := hid (show okAt s i = true by unfold okAt lowZ digZ; rw [HX.out]; have := HH0.out; simp_all)
                go_wp2_with fail
                go_roundw
                case rel => exact ⟨i + 1, by omega, by go_num, HDR.out, HSF.out.succ HOK.out⟩
                case measure => simp [intOf]; omega
              · have g3 : (((s[i]'hlt).toNat : Int) == 95) = false := beq_false_of b3
                have HR := hid (name_bad hlt (by unfold okAt lowZ digZ; rw [HX.out]; simp only [Bool.or_eq_false_iff, Bool.and_eq_false_iff, decide_eq_false_iff_not, beq_eq_false_iff_ne]; omega))
                go_wp2_with fail
                go_ret
                rw [HR.out]
                exact ⟨rfl, HDR.out.below _⟩
          · have g1 : decide (48 ≤ ((s[i]'hlt).toNat : Int)) = false := decide_eq_false b1
            by_cases b3 : ((s[i]'hlt).toNat : Int) = 95
            · have g3 : (((s[i]'hlt).toNat : Int) == 95) = true := beq_iff_eq.2 b3
              have HOK := hid (show okAt s i = true by unfold okAt lowZ digZ; rw [HX.out]; have := HH0.out; simp_all)
              go_wp2_with fail
              go_roundw
              case rel => exact ⟨i + 1, by omega, by go_num, HDR.out, HSF.out.succ HOK.out⟩
              case measure => simp [intOf]; omega
            · have g3 : (((s[i]'hlt).toNat : Int) == 95) = false := beq_false_of b3
              have HR := hid (name_bad hlt (by unfold okAt lowZ digZ; rw [HX.out]; simp only [Bool.or_eq_false_iff, Bool.and_eq_false_iff, decide_eq_false_iff_not, beq_eq_false_iff_ne]; omega))
              go_wp2_with fail
              go_ret
              rw [HR.out]
              exact ⟨rfl, HDR.out.below _⟩
      · have d1 : decide (97 ≤ ((s[i]'hlt).toNat : Int)) = false := decide_eq_false a1
        by_cases b1 : 48 ≤ ((s[i]'hlt).toNat : Int)
        · have g1 : decide (48 ≤ ((s[i]'hlt).toNat : Int)) = true := decide_eq_true b1
          by_cases b2 : ((s[i]'hlt).toNat : Int) ≤ 57
          · have g2 : decide (((s[i]'hlt).toNat : Int) ≤ 57) = true := decide_eq_true b2
            have HOK := hid (show okAt s i = true by unfold okAt lowZ digZ; rw [HX.out]; have := HH0.out; simp_all)
            go_wp2_with fail
            go_roundw
            case rel => exact ⟨i + 1, by omega, by go_num, HDR.out, HSF.out.succ HOK.out⟩
            case measure => simp [intOf]; omega
          · have g2 : decide (((s[i]'hlt).toNat : Int) ≤ 57) = false := decide_eq_false b2
            by_cases b3 : ((s[i]'hlt).toNat : Int) = 95
            · have g3 : (((s[i]'hlt).toNat : Int) == 95) = true := beq_iff_eq.2 b3
              have HOK := hid (show okAt s i = true by unfold okAt lowZ digZ; rw [HX.out]; have := HH0.out; simp_all)
              go_wp2_with fail
              go_roundw
              case rel => exact ⟨i + 1, by omega, by go_num, HDR.out, HSF.out.succ HOK.out⟩
              case measure => simp [intOf]; omega
            · have g3 : (((s[i]'hlt).toNat : Int) == 95) = false := beq_false_of b3
              have HR := hid (name_bad hlt (by unfold okAt lowZ digZ; rw [HX.out]; simp only [Bool.or_eq_false_iff, Bool.and_eq_false_iff, decide_eq_false_iff_not, beq_eq_false_iff_ne]; omega))
              go_wp2_with fail
              go_ret
              rw [HR.out]
              exact ⟨rfl, HDR.out.below _⟩
        · have g1 : decide (48 ≤ ((s[i]'hlt).toNat : Int)) = false := decide_eq_false b1
          by_cases b3 : ((s[i]'hlt).toNat : Int) = 95
          · have g3 : (((s[i]'hlt).toNat : Int) == 95) = true := beq_iff_eq.2 b3
            have HOK := hid (show okAt s i = true by unfold okAt lowZ digZ; rw [HX.out]; have := HH0.out; simp_all)
            go_wp2_with fail
            go_roundw
            case rel => exact ⟨i + 1, by omega, by go_num, HDR.out, HSF.out.succ HOK.out⟩
            case measure => simp [intOf]; omega
          · have g3 : (((s[i]'hlt).toNat : Int) == 95) = false := beq_false_of b3
            have HR := hid (name_bad hlt (by unfold okAt lowZ digZ; rw [HX.out]; simp only [Bool.or_eq_false_iff, Bool.and_eq_false_iff, decide_eq_false_iff_not, beq_eq_false_iff_ne]; omega))
            go_wp2_with fail
            go_ret
            rw [HR.out]
            exact ⟨rfl, HDR.out.below _⟩
    · have hii : ¬ (i : Int) < s.size := by omega
      have HALL := hid (show allN s.size (okAt s) = true from HSF.out.all (by omega))
      go_upto_region 9 with (first | (go_at_call 96; (with_reducible refine (rkeys_any _).mono ?_); rintro e W ⟨kb, rfl, hkb, hkc, hb⟩))
      have HBW := hid ((HDR.out.below w.heap.size).trans (hb.mono (HDR.out.below w.heap.size).size))
      have HKC := hid hkc
      have HKB := hid hkb
      clear hb hkc hkb
      go_wp2_with fail
      go_loopw [5] (fun q wr => ∃ k : Nat, k ≤ 10 ∧ q = .int .i64 (k : Int) ∧ Drawn W wr ∧ ∀ j, j < k → ((keysL.getD j ByteArray.empty).toList == s.toList) = false) (fun q _ => 10 - (intOf q).toNat)
      case atStart => exact ⟨0, Nat.zero_le _, rfl, Drawn.refl _, fun j h => absurd h (Nat.not_lt_zero _)⟩
      case round =>
        obtain ⟨k, hk, rfl, hdr2, hall⟩ := hrel
        have HDR2 := hid hdr2
        have HK := hid hall
        clear hall hdr2
        have HB2 := hid (HBW.out.trans ((HDR2.out.below W.heap.size).mono HBW.out.size))
        by_cases hkl : k < 10
        · have hki : (k : Int) < 10 := by omega
          obtain ⟨ky, hky⟩ : ∃ ky, keysL.getD k ByteArray.empty = ky := ⟨_, rfl⟩
          have hcell := ((HDR2.out.below W.heap.size).cell (p := ⟨kb, k, none⟩) HKB.out).trans (HKC.out k hkl)
          rw [hky] at hcell
          have HKY := hid hky
          clear hky
          by_cases he : (ky.toList == s.toList) = true
          · have HR := hid (name_key (s := s) hkl (by rw [HKY.out]; exact he))
            go_wp2_with fail
            go_ret
            rw [HR.out]
            exact ⟨rfl, HB2.out⟩
          · have hef : (ky.toList == s.toList) = false := by simpa using he
            go_wp2_with fail
            go_roundw
            case rel =>
              refine ⟨k + 1, by omega, by go_num, HDR2.out, fun j hj => ?_⟩
              by_cases e : j = k
              · rw [e, HKY.out]; exact hef
              · exact HK.out j (by omega)
            case measure => simp [intOf]; omega
        · have hki : ¬ (k : Int) < 10 := by omega
          have HR := hid (name_nokey (s := s) (by have := HS.out; omega) (by have := HL.out; omega) (fun j hj => HK.out j (by omega)))
          go_wp2_with fail
          go_ret
          rw [HR.out, HALL.out]
          exact ⟨rfl, HB2.out⟩
def bndO (o : Int) : Bool := o == 13 || o == 14
def lateO (o : Int) : Bool := o == 15 || o == 16 || o == 17
def numB (f : Fm) : Bool := (countZ f.op).2.2 && decide ((countZ f.op).1 ≤ (f.args.length : Int)) && (decide ((countZ f.op).2.1 < 0) || decide ((f.args.length : Int) ≤ (countZ f.op).2.1))
def isB (f : Fm) : Bool := nameB f.name && decide (0 ≤ f.val) && decide (f.val ≤ 3) && f.bound == 0
def restB (f : Fm) : Bool := f.name.toList.isEmpty && decide (0 ≤ f.val) && decide (f.val ≤ 1) && (lateO f.op || f.val == 0) && decide (0 ≤ f.bound) && decide (f.bound ≤ 9) && (bndO f.op || f.bound == 0)
theorem node_shaped {f : Fm} (hl : f.args.length ≤ manyN) : shapedB f = (numB f && if f.op = 3 then isB f else restB f) := by
  unfold manyN at hl
  by_cases h : isOp f.op = true
  · have hc := isOp_cases h
    rw [Bool.eq_iff_iff]
    constructor
    · intro hs
      obtain ⟨s1, s2, s3, s4, s5, s6, s7, s8⟩ := shp_out hs
      rcases hc with e | e | e | e | e | e | e | e | e | e | e | e | e | e | e | e | e | e | e
      all_goals
        rw [e] at s2 s3 s5 s7 s8 ⊢
        simp [formZ, isOp, formsL, form0, manyN, nameOk] at s2 s3 s5 s7 s8
        simp [numB, e, countZ, isB, restB, lateO, bndO, s8]
        try (repeat' (refine And.intro ?_ ?_))
      all_goals first | omega | (exact List.eq_nil_of_length_eq_zero (by omega)) | assumption
    · intro hs
      rcases hc with e | e | e | e | e | e | e | e | e | e | e | e | e | e | e | e | e | e | e
      all_goals
        rw [e] at hs
        simp [numB, e, countZ, isB, restB, lateO, bndO] at hs
        refine shp_of h ?_ ?_ ?_ ?_ ?_ ?_ ?_
      all_goals (try rw [e])
      all_goals (try simp [formZ, isOp, formsL, form0, manyN, nameOk])
      all_goals first | omega | (simp_all; done) | (simp_all; omega)
  · have : shapedB f = false := shaped_cases (.inl (by simpa using h))
    rw [this]
    unfold numB
    rw [countZ_not h]
    rfl
set_option maxRecDepth 100000 in
set_option maxHeartbeats 8000000 in
theorem rnode_any {D : Dom} (f : Fm) (v : Value) (w : World) (h : RdF3 w D v f) (hl : f.args.length ≤ manyN) : Calls Tryz.prog 64 #[v] w fun e w' => e = .returned (.bool (shapedB f)) ∧ Below w.heap.size w w' := by
  obtain ⟨A, c, rfl, ha⟩ := h
  have HA := hid ha.old
  have hal := ha.len.1
  have HSH := hid (node_shaped hl)
  clear ha hl
  go_enter Tryz.func64, Tryz.ntmps64
  go_upto_region 1 with (fail)
  refine wp_gen fun W hW => ?_
  have hbx : Box5 W w.heap.size f A c := by rw [hW]; exact Box5.new w f A c
  have HBX := hid hbx
  have HBW := hid (show Below w.heap.size w W by rw [hW]; go_grown)
  obtain ⟨x0, x1, x2, x3, x4, xl⟩ := hbx.cells
  clear hW hbx
  obtain ⟨⟨ka, kb, kq⟩, hk⟩ : ∃ k, countZ f.op = k := ⟨_, rfl⟩
  have HCOUNT := hid (rcount_any f.op W)
  rw [hk] at HCOUNT
  have HNUM := hid (show numB f = (kq && decide (ka ≤ (f.args.length : Int)) && (decide (kb < 0) || decide ((f.args.length : Int) ≤ kb))) by unfold numB; rw [hk])
  clear hk
  go_upto_region 2 with (first | (go_at_call 83; (with_reducible refine HCOUNT.out.mono ?_); rintro e W1 ⟨rfl, hw⟩))
  obtain rfl : W = W1 := hw.symm
  clear hw
  rename_i K hK
  refine wp_tail K (List.range' 15 20) (fun us W' => us 34 = .bool (!numB f) ∧ W' = W) ?_ ?_
  rotate_left
  · intro HTAIL
    have HTL := hid HTAIL
    clear HTAIL hK
    cases kq
    · have HR := hid (show numB f = false by rw [HNUM.out]; rfl)
      go_wp2_with fail
      refine tail_close HTL.out ⟨by rw [HR.out]; rfl, rfl⟩ ?_
      kernel_rfl
    by_cases h1 : (f.args.length : Int) < ka
    · have d1 : decide ((f.args.length : Int) < ka) = true := decide_eq_true h1
      have HR := hid (show numB f = false by rw [HNUM.out, decide_eq_false (show ¬ ka ≤ (f.args.length : Int) by omega)]; rfl)
      go_wp2_with fail
      refine tail_close HTL.out ⟨by rw [HR.out]; rfl, rfl⟩ ?_
      kernel_rfl
    have d1 : decide ((f.args.length : Int) < ka) = false := decide_eq_false h1
    by_cases h2 : 0 ≤ kb
    · have d2 : decide (0 ≤ kb) = true := decide_eq_true h2
      by_cases h3 : kb < (f.args.length : Int)
      · have d3 : decide (kb < (f.args.length : Int)) = true := decide_eq_true h3
        have HR := hid (show numB f = false by rw [HNUM.out, decide_eq_false (show ¬ kb < 0 by omega), decide_eq_false (show ¬ (f.args.length : Int) ≤ kb by omega)]; simp)
        go_wp2_with fail
        refine tail_close HTL.out ⟨by rw [HR.out]; rfl, rfl⟩ ?_
        kernel_rfl
      · have d3 : decide (kb < (f.args.length : Int)) = false := decide_eq_false h3
        have HR := hid (show numB f = true by rw [HNUM.out, decide_eq_true (show ka ≤ (f.args.length : Int) by omega), decide_eq_true (show (f.args.length : Int) ≤ kb by omega)]; simp)
        go_wp2_with fail
        refine tail_close HTL.out ⟨by rw [HR.out]; rfl, rfl⟩ ?_
        kernel_rfl
    · have d2 : decide (0 ≤ kb) = false := decide_eq_false h2
      have HR := hid (show numB f = true by rw [HNUM.out, decide_eq_true (show ka ≤ (f.args.length : Int) by omega), decide_eq_true (show kb < 0 by omega)]; simp)
      go_wp2_with fail
      refine tail_close HTL.out ⟨by rw [HR.out]; rfl, rfl⟩ ?_
      kernel_rfl
  rintro us W1 ⟨hu, hw⟩
  obtain rfl : W = W1 := hw.symm
  apply hK
  simp only [putAll, List.range', List.range'_succ, Act.put, List.setIfInBounds_toArray, List.set_cons_zero, List.set_cons_succ, Nat.reduceAdd]
  rw [hu]
  clear hK hu hw HNUM HCOUNT
  cases hn : numB f
  · have HR := hid (show shapedB f = false by rw [HSH.out, hn]; rfl)
    clear hn
    go_wp2_with fail
    go_ret
    rw [HR.out]
    exact ⟨rfl, HBW.out⟩
  rw [hn] at HSH
  clear hn
  by_cases h3 : f.op = 3
  · have d3 : (f.op == 3) = true := beq_iff_eq.2 h3
    rw [if_pos h3, Bool.true_and] at HSH
    clear h3
    have h0 := xl
    go_upto_region 5 with (fail)
    have HNM := hid (rname_any f.name W (by omega))
    cases hnm : nameB f.name
    · have HNQ := hid hnm
      have HR := hid (show isB f = false by unfold isB; simp [HNQ.out])
      go_wp2_with (first | (go_at_call 84; (with_reducible refine HNM.out.mono ?_); rw [HNQ.out]; rintro e W2 ⟨rfl, hb2⟩; obtain ⟨x0, x1, x2, x3, x4, xl2⟩ := (HBX.out.below hb2).cells))
      go_ret
      rw [HSH.out, HR.out]
      exact ⟨rfl, HBW.out.trans (hb2.mono HBW.out.size)⟩
    have HNQ := hid hnm
    clear hnm
    by_cases v0 : 0 ≤ f.val
    rotate_left
    · have dv0 : decide (0 ≤ f.val) = false := decide_eq_false v0
      have HR := hid (show isB f = false by unfold isB; simp [HNQ.out, v0])
      go_wp2_with (first | (go_at_call 84; (with_reducible refine HNM.out.mono ?_); rw [HNQ.out]; rintro e W2 ⟨rfl, hb2⟩; obtain ⟨x0, x1, x2, x3, x4, xl2⟩ := (HBX.out.below hb2).cells))
      go_ret
      rw [HSH.out, HR.out]
      exact ⟨rfl, HBW.out.trans (hb2.mono HBW.out.size)⟩
    have dv0 : decide (0 ≤ f.val) = true := decide_eq_true v0
    by_cases v1 : f.val ≤ 3
    rotate_left
    · have dv1 : decide (f.val ≤ 3) = false := decide_eq_false v1
      have HR := hid (show isB f = false by unfold isB; simp [HNQ.out, v1])
      go_wp2_with (first | (go_at_call 84; (with_reducible refine HNM.out.mono ?_); rw [HNQ.out]; rintro e W2 ⟨rfl, hb2⟩; obtain ⟨x0, x1, x2, x3, x4, xl2⟩ := (HBX.out.below hb2).cells))
      go_ret
      rw [HSH.out, HR.out]
      exact ⟨rfl, HBW.out.trans (hb2.mono HBW.out.size)⟩
    have dv1 : decide (f.val ≤ 3) = true := decide_eq_true v1
    by_cases b0 : f.bound = 0
    rotate_left
    · have db0 : (f.bound == 0) = false := beq_false_of b0
      have HR := hid (show isB f = false by unfold isB; simp [HNQ.out, b0])
      go_wp2_with (first | (go_at_call 84; (with_reducible refine HNM.out.mono ?_); rw [HNQ.out]; rintro e W2 ⟨rfl, hb2⟩; obtain ⟨x0, x1, x2, x3, x4, xl2⟩ := (HBX.out.below hb2).cells))
      go_ret
      rw [HSH.out, HR.out]
      exact ⟨rfl, HBW.out.trans (hb2.mono HBW.out.size)⟩
    have db0 : (f.bound == 0) = true := beq_iff_eq.2 b0
    have HR := hid (show isB f = true by unfold isB; simp [HNQ.out, v0, v1, b0])
    go_wp2_with (first | (go_at_call 84; (with_reducible refine HNM.out.mono ?_); rw [HNQ.out]; rintro e W2 ⟨rfl, hb2⟩; obtain ⟨x0, x1, x2, x3, x4, xl2⟩ := (HBX.out.below hb2).cells))
    go_ret
    rw [HSH.out, HR.out]
    exact ⟨rfl, HBW.out.trans (hb2.mono HBW.out.size)⟩
  have d3 : (f.op == 3) = false := beq_false_of h3
  rw [if_neg h3, Bool.true_and] at HSH
  go_upto_region 6 with (fail)
  rename_i K hK
  refine wp_tail K (6 :: List.range' 56 8) (fun us W' => us 6 = .bool (bndO f.op) ∧ W' = W) ?_ ?_
  rotate_left
  · intro HTAIL
    have HTL := hid HTAIL
    clear HTAIL hK
    by_cases k13 : f.op = 13
    · have e13 : (f.op == 13) = true := beq_iff_eq.2 k13
      have HR := hid (show bndO f.op = true by unfold bndO; rw [e13]; simp)
      go_wp2_with fail
      refine tail_close HTL.out ⟨by rw [HR.out]; rfl, rfl⟩ ?_
      kernel_rfl
    have e13 : (f.op == 13) = false := beq_false_of k13
    by_cases k14 : f.op = 14
    · have e14 : (f.op == 14) = true := beq_iff_eq.2 k14
      have HR := hid (show bndO f.op = true by unfold bndO; rw [e13, e14]; simp)
      go_wp2_with fail
      refine tail_close HTL.out ⟨by rw [HR.out]; rfl, rfl⟩ ?_
      kernel_rfl
    have e14 : (f.op == 14) = false := beq_false_of k14
    have HR := hid (show bndO f.op = false by unfold bndO; rw [e13, e14]; rfl)
    go_wp2_with fail
    refine tail_close HTL.out ⟨by rw [HR.out]; rfl, rfl⟩ ?_
    kernel_rfl
  rintro us W1 ⟨hu, hw⟩
  obtain rfl : W = W1 := hw.symm
  apply hK
  simp only [putAll, List.range', List.range'_succ, Act.put, List.setIfInBounds_toArray, List.set_cons_zero, List.set_cons_succ, Nat.reduceAdd]
  rw [hu]
  clear hK hu hw
  go_upto_region 7 with (fail)
  rename_i K hK
  refine wp_tail K (7 :: List.range' 64 13) (fun us W' => us 7 = .bool (lateO f.op) ∧ W' = W) ?_ ?_
  rotate_left
  · intro HTAIL
    have HTL := hid HTAIL
    clear HTAIL hK
    by_cases k15 : f.op = 15
    · have e15 : (f.op == 15) = true := beq_iff_eq.2 k15
      have HR := hid (show lateO f.op = true by unfold lateO; rw [e15]; simp)
      go_wp2_with fail
      refine tail_close HTL.out ⟨by rw [HR.out]; rfl, rfl⟩ ?_
      kernel_rfl
    have e15 : (f.op == 15) = false := beq_false_of k15
    by_cases k16 : f.op = 16
    · have e16 : (f.op == 16) = true := beq_iff_eq.2 k16
      have HR := hid (show lateO f.op = true by unfold lateO; rw [e15, e16]; simp)
      go_wp2_with fail
      refine tail_close HTL.out ⟨by rw [HR.out]; rfl, rfl⟩ ?_
      kernel_rfl
    have e16 : (f.op == 16) = false := beq_false_of k16
    by_cases k17 : f.op = 17
    · have e17 : (f.op == 17) = true := beq_iff_eq.2 k17
      have HR := hid (show lateO f.op = true by unfold lateO; rw [e15, e16, e17]; simp)
      go_wp2_with fail
      refine tail_close HTL.out ⟨by rw [HR.out]; rfl, rfl⟩ ?_
      kernel_rfl
    have e17 : (f.op == 17) = false := beq_false_of k17
    have HR := hid (show lateO f.op = false by unfold lateO; rw [e15, e16, e17]; rfl)
    go_wp2_with fail
    refine tail_close HTL.out ⟨by rw [HR.out]; rfl, rfl⟩ ?_
    kernel_rfl
  rintro us W1 ⟨hu, hw⟩
  obtain rfl : W = W1 := hw.symm
  apply hK
  simp only [putAll, List.range', List.range'_succ, Act.put, List.setIfInBounds_toArray, List.set_cons_zero, List.set_cons_succ, Nat.reduceAdd]
  rw [hu]
  clear hK hu hw
  go_upto_region 8 with (fail)
  obtain ⟨lt, hlt⟩ : ∃ q, q = lateO f.op := ⟨_, rfl⟩
  obtain ⟨bd, hbd⟩ : ∃ q, q = bndO f.op := ⟨_, rfl⟩
  have HREST := hid (show restB f = (f.name.toList.isEmpty && decide (0 ≤ f.val) && decide (f.val ≤ 1) && (lt || f.val == 0) && decide (0 ≤ f.bound) && decide (f.bound ≤ 9) && (bd || f.bound == 0)) by rw [hlt, hbd]; rfl)
  rw [← hlt, ← hbd]
  clear hlt hbd h3 d3
  cases hnm : f.name.toList.isEmpty
  · have HR := hid (show restB f = false by rw [HREST.out]; simp [hnm])
    go_wp2_with fail
    go_ret
    rw [HSH.out, HR.out]
    exact ⟨rfl, HBW.out⟩
  by_cases v0 : 0 ≤ f.val
  rotate_left
  · have dv0 : decide (0 ≤ f.val) = false := decide_eq_false v0
    have HR := hid (show restB f = false by rw [HREST.out]; simp [hnm, dv0])
    go_wp2_with fail
    go_ret
    rw [HSH.out, HR.out]
    exact ⟨rfl, HBW.out⟩
  have dv0 : decide (0 ≤ f.val) = true := decide_eq_true v0
  by_cases v1 : f.val ≤ 1
  rotate_left
  · have dv1 : decide (f.val ≤ 1) = false := decide_eq_false v1
    have HR := hid (show restB f = false by rw [HREST.out]; simp [hnm, dv0, dv1])
    go_wp2_with fail
    go_ret
    rw [HSH.out, HR.out]
    exact ⟨rfl, HBW.out⟩
  have dv1 : decide (f.val ≤ 1) = true := decide_eq_true v1
  cases lt
  · by_cases v2 : f.val = 0
    rotate_left
    · have dv2 : (f.val == 0) = false := beq_false_of v2
      have HR := hid (show restB f = false by rw [HREST.out]; simp [hnm, dv0, dv1, dv2])
      go_wp2_with fail
      go_ret
      rw [HSH.out, HR.out]
      exact ⟨rfl, HBW.out⟩
    have dv2 : (f.val == 0) = true := beq_iff_eq.2 v2
    by_cases b0 : 0 ≤ f.bound
    rotate_left
    · have db0 : decide (0 ≤ f.bound) = false := decide_eq_false b0
      have HR := hid (show restB f = false by rw [HREST.out]; simp [hnm, dv0, dv1, dv2, db0])
      go_wp2_with fail
      go_ret
      rw [HSH.out, HR.out]
      exact ⟨rfl, HBW.out⟩
    have db0 : decide (0 ≤ f.bound) = true := decide_eq_true b0
    by_cases b1 : f.bound ≤ 9
    rotate_left
    · have db1 : decide (f.bound ≤ 9) = false := decide_eq_false b1
      have HR := hid (show restB f = false by rw [HREST.out]; simp [hnm, dv0, dv1, dv2, db0, db1])
      go_wp2_with fail
      go_ret
      rw [HSH.out, HR.out]
      exact ⟨rfl, HBW.out⟩
    have db1 : decide (f.bound ≤ 9) = true := decide_eq_true b1
    cases bd
    · by_cases z : f.bound = 0
      rotate_left
      · have dz : (f.bound == 0) = false := beq_false_of z
        have HR := hid (show restB f = false by rw [HREST.out]; simp [hnm, dv0, dv1, dv2, db0, db1, dz])
        go_wp2_with fail
        go_ret
        rw [HSH.out, HR.out]
        exact ⟨rfl, HBW.out⟩
      have dz : (f.bound == 0) = true := beq_iff_eq.2 z
      have HR := hid (show restB f = true by rw [HREST.out]; simp [hnm, dv0, dv1, dv2, db0, db1, dz])
      go_wp2_with fail
      go_ret
      rw [HSH.out, HR.out]
      exact ⟨rfl, HBW.out⟩
    · have HR := hid (show restB f = true by rw [HREST.out]; simp [hnm, dv0, dv1, dv2, db0, db1])
      go_wp2_with fail
      go_ret
      rw [HSH.out, HR.out]
      exact ⟨rfl, HBW.out⟩
  · by_cases b0 : 0 ≤ f.bound
    rotate_left
    · have db0 : decide (0 ≤ f.bound) = false := decide_eq_false b0
      have HR := hid (show restB f = false by rw [HREST.out]; simp [hnm, dv0, dv1, db0])
      go_wp2_with fail
      go_ret
      rw [HSH.out, HR.out]
      exact ⟨rfl, HBW.out⟩
    have db0 : decide (0 ≤ f.bound) = true := decide_eq_true b0
    by_cases b1 : f.bound ≤ 9
    rotate_left
    · have db1 : decide (f.bound ≤ 9) = false := decide_eq_false b1
      have HR := hid (show restB f = false by rw [HREST.out]; simp [hnm, dv0, dv1, db0, db1])
      go_wp2_with fail
      go_ret
      rw [HSH.out, HR.out]
      exact ⟨rfl, HBW.out⟩
    have db1 : decide (f.bound ≤ 9) = true := decide_eq_true b1
    cases bd
    · by_cases z : f.bound = 0
      rotate_left
      · have dz : (f.bound == 0) = false := beq_false_of z
        have HR := hid (show restB f = false by rw [HREST.out]; simp [hnm, dv0, dv1, db0, db1, dz])
        go_wp2_with fail
        go_ret
        rw [HSH.out, HR.out]
        exact ⟨rfl, HBW.out⟩
      have dz : (f.bound == 0) = true := beq_iff_eq.2 z
      have HR := hid (show restB f = true by rw [HREST.out]; simp [hnm, dv0, dv1, db0, db1, dz])
      go_wp2_with fail
      go_ret
      rw [HSH.out, HR.out]
      exact ⟨rfl, HBW.out⟩
    · have HR := hid (show restB f = true by rw [HREST.out]; simp [hnm, dv0, dv1, db0, db1])
      go_wp2_with fail
      go_ret
      rw [HSH.out, HR.out]
      exact ⟨rfl, HBW.out⟩
end Go.Proofs.YtahgbgniaiccbaaGreatDoor
