/-
  Walks of empty and build.
-/
import Derived.Test.YtfabdpnjjondaaaG7
set_option linter.unusedVariables false
set_option linter.unusedSimpArgs false
namespace Go.Proofs.Ytfabdpnjjondaaa
open Go.RowKit
attribute [local go_sem] cell_alloc_old build_g1 build_g2 build_g3

set_option maxHeartbeats 400000 in
theorem empty_any {D : Dom} (A : Option Addr) (c : Nat) (xs : List Int) (w : World) (h : RdI w D A c xs) :
    Calls Try.prog 56 #[.slice A xs.length c] w fun e w' => e = .returned (.bool (emptyB xs)) ∧ w' = w := by
  have hm := h.len.1
  have HR := hid h
  clear h
  go_enter Try.func56, Try.ntmps56
  go_wp2
  go_loop [2, 7] (fun r t => ∃ k : Nat, k ≤ xs.length ∧ t = .int .i64 k ∧ r = .bool false ∧ SoFar k (fun j => decide (xs.getD j 0 = -1))) (fun _ t => xs.length - (intOf t).toNat)
  case atStart => exact ⟨0, Nat.zero_le _, rfl, rfl, SoFar.zero _⟩
  case round =>
    obtain ⟨k, hk, rfl, rfl, hb⟩ := hrel
    have HB := hid hb
    clear hb
    by_cases hlt : k < xs.length
    · obtain ⟨b, o, x, rfl, _, _, HX, hc⟩ := HR.out.get hlt
      by_cases hx : x = -1
      · have e1 : (x != -1) = false := by simp [hx]
        have HE := hid hx
        clear hx
        go_wp2
        go_round
        case rel => exact ⟨k + 1, by omega, by go_num, rfl, HB.out.succ (by rw [HX.out]; simp [HE.out])⟩
        case measure => simp [intOf]; omega
      · have e1 : (x != -1) = true := by simp [hx]
        have HE := hid hx
        clear hx
        go_wp2
        go_ret
        exact ⟨ret_bool (by unfold emptyB; rw [allN_false hlt (by rw [HX.out]; simp [HE.out])]), rfl⟩
    · go_wp2
      go_ret
      exact ⟨ret_bool (by unfold emptyB; rw [HB.out.all (by omega)]), rfl⟩

theorem someB_snoc (x : Int) (l : List Int) (a : Int) : someB x (l ++ [a]) = (someB x l || decide (a = x)) := by simp [someB, List.any_append]
theorem build_a2 (w : World) : (Instr.build 83 #[]).run Try.prog w = .ok (.agg #[.bool false, .bool false]) w := run_build w 83 _ _ (by kernel_rfl)
attribute [local go_sem] build_a2

/-- A list that splits. -/
theorem someB_take (x : Int) (l : List Int) : someB x (l.take l.length) = someB x l := by rw [List.take_length]

theorem build_short {gs : GS} {cells vars : List Int} (h : vars = [] ∨ (someB 0 cells && someB 1 cells) = false) : buildG gs cells vars = constG gs (if someB 1 cells then 1 else 0) := by
  cases vars with
  | nil => rfl
  | cons v vs =>
    rcases h with h | h
    · cases h
    · unfold buildG
      rw [if_neg (by simp [h])]

set_option maxHeartbeats 4000000 in
theorem build_short_any {ib nl : Int} (bt bg : Nat) (vars : List Int) (w : World) (gs : GS) (F D : Dom) (A B : Option Addr) (c d n : Nat) (cells : List Int) (hG : Gat w bg gs F) (hok : Ok ib nl gs)
    (ht : w.cell? ⟨bt, 0, none⟩ = some (.pointer (some ⟨bg, 0, none⟩))) (hr : RdI w D A c cells) (hcells : ∀ j, j < cells.length → cells.getD j 0 = -1 ∨ cells.getD j 0 = 0 ∨ cells.getD j 0 = 1)
    (hs : (someB 0 cells && someB 1 cells) = false) (hgl : gs.length ≤ 999000) (r : Int × GS) (hrr : r = constG gs (if someB 1 cells then 1 else 0)) :
    Calls Try.prog 52 #[.pointer (some ⟨bt, 0, none⟩), .slice A cells.length c, .slice B n d] w fun e w' =>
      e = .returned (.int .i64 r.1) ∧ GPost w bg F r.2 w' := by
  have hm := hr.len.1
  have HR := hid hr
  have HT := hid ht
  have HC := hid hcells
  have HOK := hid hok
  have HG := hid hG
  have HS := hid hs
  have HRR := hid hrr
  have htl := World.block_lt_of_cell? w _ ht
  clear hr ht hcells hok hG hs hrr
  go_enter Try.func52, Try.ntmps52
  go_wp2_with fail
  go_loopw [9, 18] (fun _ t wr => ∃ k : Nat, k ≤ cells.length ∧ t = .int .i64 k ∧ Below w.heap.size w wr ∧ wr.heap[w.heap.size]? = some (.cells #[.bool (someB 0 (cells.take k)), .bool (someB 1 (cells.take k))] 83 (0, 0))) (fun _ t _ => cells.length - (intOf t).toNat)
  case atStart => exact ⟨0, Nat.zero_le _, rfl, by go_grown, by simpa [someB] using heap_alloc_new w _⟩
  case round =>
    obtain ⟨k, hk, rfl, hbw, hbl⟩ := hrel
    by_cases hlt : k < cells.length
    · obtain ⟨b, o, x, rfl, _, _, HX, hc⟩ := (HR.out.keep ((Keeps.refl D w).belowLe hbw (Nat.le_refl _))).get hlt
      have hx3 := HC.out k hlt
      rw [HX.out] at hx3
      have hi1 : (k : Int) < cells.length := by omega
      have htk : cells.take (k + 1) = cells.take k ++ [x] := by rw [take_succ_getD cells 0 hlt, HX.out]
      have hb0 := block_cell hbl (i := 0) rfl
      have hb1 := block_cell hbl (i := 1) rfl
      have hf0 := block_free hbl (i := 0)
      have hf1 := block_free hbl (i := 1)
      have HBL := hid hbl
      have HTK := hid htk
      have HBW := hid hbw
      clear hbl htk hbw
      rcases hx3 with hx | hx | hx
      · have e1 : (x != -1) = false := by simp [hx]
        have HXX := hid hx
        clear hx
        go_wp2_with fail
        go_roundw
        case rel => exact ⟨k + 1, by omega, by go_num, HBW.out, by rw [HTK.out, someB_snoc, someB_snoc, HXX.out]; simpa using HBL.out⟩
        case measure => simp [intOf]; omega
      · have e1 : (x != -1) = true := by simp [hx]
        have HXX := hid hx
        subst hx
        go_wp2_with fail
        go_roundw
        case rel => exact ⟨k + 1, by omega, by go_num, HBW.out.setCell (p := ⟨w.heap.size, 0, none⟩) (Nat.le_refl _) _, by rw [HTK.out, someB_snoc, someB_snoc]; simpa using set_block HBL.out (i := 0) (.bool true)⟩
        case measure => simp [intOf]; omega
      · have e1 : (x != -1) = true := by simp [hx]
        have HXX := hid hx
        subst hx
        go_wp2_with fail
        go_roundw
        case rel => exact ⟨k + 1, by omega, by go_num, HBW.out.setCell (p := ⟨w.heap.size, 1, none⟩) (Nat.le_refl _) _, by rw [HTK.out, someB_snoc, someB_snoc]; simpa using set_block HBL.out (i := 1) (.bool true)⟩
        case measure => simp [intOf]; omega
    · obtain rfl : k = cells.length := by omega
      rw [List.take_length] at hbl
      have hb0 := block_cell hbl (i := 0) rfl
      have hb1 := block_cell hbl (i := 1) rfl
      have htr : wr.cell? ⟨bt, 0, none⟩ = some (.pointer (some ⟨bg, 0, none⟩)) := (hbw.cell htl).trans HT.out
      have hGr := HG.out.below hbw
      have HGR := hid hGr
      have HBW := hid hbw
      clear hbl hbw hGr
      have key : ∀ y : Int, y = (if someB 1 cells then 1 else 0) → Calls Try.prog 55 #[.pointer (some ⟨bg, 0, none⟩), .int .i64 y] wr fun e w' =>
          e = .returned (.int .i64 r.1) ∧ GPost w bg F r.2 w' := by
        intro y hy
        subst hy
        rw [HRR.out]
        refine (const_any wr bg gs F _ HGR.out (by omega) HOK.out).mono ?_
        rintro e w' ⟨rfl, hp⟩
        exact ⟨rfl, GPost.after HBW.out hp⟩
      have KEY := hid key
      clear key
      have hs := HS.out
      cases h0 : someB 0 cells <;> cases h1 : someB 1 cells
      · rw [h0] at hb0
        rw [h1] at hb1 KEY
        have H1 := hid h1
        clear h0 h1 hs
        go_wp2_with fail
        refine (KEY.out 0 rfl).mono ?_
        rintro e w1 ⟨rfl, hp⟩
        have HP := hid hp
        clear hp
        go_wp2_with fail
        go_ret
        exact ⟨rfl, HP.out⟩
      · rw [h0] at hb0
        rw [h1] at hb1 KEY
        have H1 := hid h1
        clear h0 h1 hs
        go_wp2_with fail
        refine (KEY.out 1 rfl).mono ?_
        rintro e w1 ⟨rfl, hp⟩
        have HP := hid hp
        clear hp
        go_wp2_with fail
        go_ret
        exact ⟨rfl, HP.out⟩
      · rw [h0] at hb0
        rw [h1] at hb1 KEY
        have H1 := hid h1
        clear h0 h1 hs
        go_wp2_with fail
        refine (KEY.out 0 rfl).mono ?_
        rintro e w1 ⟨rfl, hp⟩
        have HP := hid hp
        clear hp
        go_wp2_with fail
        go_ret
        exact ⟨rfl, HP.out⟩
      · rw [h0, h1] at hs
        simp at hs

theorem add_plain (b o k : Nat) : (⟨b, o, none⟩ : Addr).add k = ⟨b, o + k, none⟩ := by
  unfold Addr.add
  by_cases h : k = 0 <;> simp [h]
/-- What a call of build needs of memory. -/
structure BC (bt bg : Nat) (D : Dom) (A B : Option Addr) (c d : Nat) (cells vars : List Int) (W : World) (gs : GS) (F : Dom) : Prop where
  gat : Gat W bg gs F
  cell : W.cell? ⟨bt, 0, none⟩ = some (.pointer (some ⟨bg, 0, none⟩))
  nf : ¬ F bt
  rc : RdI W D A c cells
  rv : RdI W D B d vars
  dis : ∀ b, D b → ¬ F b
  dlt : ∀ b, D b → b < W.heap.size
section
variable {bt bg : Nat} {D F : Dom} {A B : Option Addr} {c d : Nat} {cells vars : List Int} {W W' : World} {gs gs' : GS}
theorem BC.below (h : BC bt bg D A B c d cells vars W gs F) (hb : Below W.heap.size W W') : BC bt bg D A B c d cells vars W' gs F :=
  ⟨h.gat.below hb, (hb.cell (World.block_lt_of_cell? W _ h.cell)).trans h.cell, h.nf, h.rc.keep ((Keeps.refl _ _).below hb), h.rv.keep ((Keeps.refl _ _).below hb), h.dis, fun b hd => Nat.lt_of_lt_of_le (h.dlt b hd) hb.size⟩
theorem BC.post (h : BC bt bg D A B c d cells vars W gs F) (hp : GPost W bg F gs' W') : ∃ F', BC bt bg D A B c d cells vars W' gs' F' ∧ ∀ gs2 W2, GPost W' bg F' gs2 W2 → GPost W bg F gs2 W2 := by
  obtain ⟨F', hg, hs, hc⟩ := hp
  have hbt : bt < W.heap.size := World.block_lt_of_cell? W _ h.cell
  have hk : Keeps D W W' := hc.keeps h.dis
  refine ⟨F', ⟨hg, ?_, fun hf => ?_, h.rc.keep hk, h.rv.keep hk, fun b hd hf => ?_, fun b hd => Nat.lt_of_lt_of_le (h.dlt b hd) hc.size⟩, fun gs2 W2 hp => GPost.trans hs hc hp⟩
  · rw [← h.cell]
    exact World.cell?_of_block (w := W) (a := ⟨bt, 0, none⟩) (hc.block bt hbt h.nf)
  · rcases hs bt hf with h1 | h1
    · exact h.nf h1
    · omega
  · rcases hs b hf with h1 | h1
    · exact h.dis b hd h1
    · have := h.dlt b hd; omega
theorem BC.at_ {b2 o2 : Nat} {v : Int} {vs : List Int} (h : BC bt bg D A (some ⟨b2, o2, none⟩) c d cells (v :: vs) W gs F) : W.cell? ⟨bt, 0, none⟩ = some (.pointer (some ⟨bg, 0, none⟩)) ∧ W.cell? ⟨b2, o2, none⟩ = some (.int .i64 v) := by
  refine ⟨h.cell, ?_⟩
  obtain ⟨bx, ox, x, hbx, -, -, HX, hxc⟩ := h.rv.get (k := 0) (by simp)
  injection hbx with hbx
  injection hbx with hbx hox
  subst hbx hox
  have hxv : x = v := by rw [← HX.out]; rfl
  subst hxv
  exact hxc
end

set_option maxHeartbeats 4000000 in
theorem build_any {ib nl : Int} (bt bg : Nat) : ∀ (vars : List Int) (w : World) (gs : GS) (F D : Dom) (A B : Option Addr) (c d : Nat) (cells : List Int), Gat w bg gs F → Ok ib nl gs →
    w.cell? ⟨bt, 0, none⟩ = some (.pointer (some ⟨bg, 0, none⟩)) → ¬ F bt → RdI w D A c cells → RdI w D B d vars → (∀ b, D b → ¬ F b) → (∀ j, j < vars.length → 0 ≤ vars.getD j 0 ∧ vars.getD j 0 < gs.length) →
    (∀ j, j < cells.length → cells.getD j 0 = -1 ∨ cells.getD j 0 = 0 ∨ cells.getD j 0 = 1) → cells.length = 2 ^ vars.length → (buildG gs cells vars).2.length ≤ 999000 →
    Calls Try.prog 52 #[.pointer (some ⟨bt, 0, none⟩), .slice A cells.length c, .slice B vars.length d] w fun e w' =>
      e = .returned (.int .i64 (buildG gs cells vars).1) ∧ GPost w bg F (buildG gs cells vars).2 w' := by
  intro vars
  induction vars with
  | nil =>
    intro w gs F D A B c d cells hG hok ht hbt hr hv hD hvars hcells hlen hl
    refine build_short_any bt bg [] w gs F D A B c d _ cells hG hok ht hr hcells ?_ (by have := (build_up [] gs cells hok hvars).len; omega) _ rfl
    match cells, hlen with
    | [x], _ => by_cases h : x = 0 <;> simp [someB, h]
  | cons v vs ih =>
    intro w gs F D A B c d cells hG hok ht hbt hr hv hD hvars hcells hlen hl
    have hgl : gs.length ≤ 999000 := by have := (build_up (v :: vs) gs cells hok hvars).len; omega
    by_cases hs : (someB 0 cells && someB 1 cells) = false
    · rw [build_short (gs := gs) (vars := v :: vs) (.inr hs)]
      exact build_short_any bt bg [] w gs F D A B c d _ cells hG hok ht hr hcells hs hgl _ rfl
    rw [Bool.not_eq_false, Bool.and_eq_true] at hs
    obtain ⟨hs0, hs1⟩ := hs
    have HS0 := hid hs0
    have HS1 := hid hs1
    clear hs0 hs1
    have hm := hr.len.1
    have hlb : cells.length = 2 * 2 ^ vs.length := by rw [hlen]; simp [Nat.pow_succ]; omega
    have HR := hid hr
    have HT := hid ht
    have HC := hid hcells
    have HV := hid hv
    have HVR := hid hvars
    have HLB := hid hlb
    have HL := hid hl
    have HIH := hid ih
    have HD := hid hD
    have HOK := hid hok
    have HG := hid hG
    have htl := World.block_lt_of_cell? w _ ht
    clear hr ht hcells hv hvars hlb hl ih hD hok hG hlen
    go_enter Try.func52, Try.ntmps52
    go_wp2_with fail
    go_loopw [9, 18] (fun _ t wr => ∃ k : Nat, k ≤ cells.length ∧ t = .int .i64 k ∧ Below w.heap.size w wr ∧ wr.heap[w.heap.size]? = some (.cells #[.bool (someB 0 (cells.take k)), .bool (someB 1 (cells.take k))] 83 (0, 0))) (fun _ t _ => cells.length - (intOf t).toNat)
    case atStart => exact ⟨0, Nat.zero_le _, rfl, by go_grown, by simpa [someB] using heap_alloc_new w _⟩
    case round =>
      obtain ⟨k, hk, rfl, hbw, hbl⟩ := hrel
      by_cases hlt : k < cells.length
      · obtain ⟨b, o, x, rfl, _, _, HX, hc⟩ := (HR.out.keep ((Keeps.refl D w).belowLe hbw (Nat.le_refl _))).get hlt
        have hx3 := HC.out k hlt
        rw [HX.out] at hx3
        have hi1 : (k : Int) < cells.length := by omega
        have htk : cells.take (k + 1) = cells.take k ++ [x] := by rw [take_succ_getD cells 0 hlt, HX.out]
        have hb0 := block_cell hbl (i := 0) rfl
        have hb1 := block_cell hbl (i := 1) rfl
        have hf0 := block_free hbl (i := 0)
        have hf1 := block_free hbl (i := 1)
        have HBL := hid hbl
        have HTK := hid htk
        have HBW := hid hbw
        clear hbl htk hbw
        rcases hx3 with hx | hx | hx
        · have e1 : (x != -1) = false := by simp [hx]
          have HXX := hid hx
          clear hx
          go_wp2_with fail
          go_roundw
          case rel => exact ⟨k + 1, by omega, by go_num, HBW.out, by rw [HTK.out, someB_snoc, someB_snoc, HXX.out]; simpa using HBL.out⟩
          case measure => simp [intOf]; omega
        · have e1 : (x != -1) = true := by simp [hx]
          have HXX := hid hx
          subst hx
          go_wp2_with fail
          go_roundw
          case rel => exact ⟨k + 1, by omega, by go_num, HBW.out.setCell (p := ⟨w.heap.size, 0, none⟩) (Nat.le_refl _) _, by rw [HTK.out, someB_snoc, someB_snoc]; simpa using set_block HBL.out (i := 0) (.bool true)⟩
          case measure => simp [intOf]; omega
        · have e1 : (x != -1) = true := by simp [hx]
          have HXX := hid hx
          subst hx
          go_wp2_with fail
          go_roundw
          case rel => exact ⟨k + 1, by omega, by go_num, HBW.out.setCell (p := ⟨w.heap.size, 1, none⟩) (Nat.le_refl _) _, by rw [HTK.out, someB_snoc, someB_snoc]; simpa using set_block HBL.out (i := 1) (.bool true)⟩
          case measure => simp [intOf]; omega
      · obtain rfl : k = cells.length := by omega
        rw [List.take_length, HS0.out, HS1.out] at hbl
        have hb0 := block_cell hbl (i := 0) rfl
        have hb1 := block_cell hbl (i := 1) rfl
        have htr : wr.cell? ⟨bt, 0, none⟩ = some (.pointer (some ⟨bg, 0, none⟩)) := (hbw.cell htl).trans HT.out
        have hGr := HG.out.below hbw
        have HGR := hid hGr
        have HBW := hid hbw
        clear hbl hbw hGr
        obtain ⟨q, hq⟩ : ∃ q : Nat, q = cells.length / 2 := ⟨_, rfl⟩
        have hw : IntKind.i64.wrap ((cells.length : Int) / 2) = (q : Int) := by rw [hq, IntWalk.i64_in _ (by omega)]; rfl
        have hql : q ≤ cells.length := by omega
        have hqc : cells.length ≤ c := HR.out.len.2.1
        have hcm : c ≤ 9223372036854775807 := HR.out.len.2.2
        have hvl : vs.length + 1 ≤ d := HV.out.len.2.1
        have hdm : d ≤ 9223372036854775807 := HV.out.len.2.2
        have HQ := hid hq
        clear hq
        have hp2 : 0 < 2 ^ vs.length := Nat.two_pow_pos _
        obtain ⟨b1, o1, rfl, -, -, -⟩ := HR.out.ptr (by have := HLB.out; omega)
        obtain ⟨b2, o2, rfl, -, -, -⟩ := HV.out.ptr (by simp)
        have hbc : BC bt bg (fun b => D b ∧ b < w.heap.size) (some ⟨b1, o1, none⟩) (some ⟨b2, o2, none⟩) c d cells (v :: vs) wr gs F := by
          have hk : Keeps (fun b => D b ∧ b < w.heap.size) w wr := Keeps.of_below HBW.out (fun b h => h.2)
          exact ⟨HGR.out, htr, hbt, (HR.out.mono (fun b h1 h2 => ⟨h1, h2⟩)).keep hk, (HV.out.mono (fun b h1 h2 => ⟨h1, h2⟩)).keep hk, fun b h => HD.out b h.1, fun b h => Nat.lt_of_lt_of_le h.2 HBW.out.size⟩
        have hv0 := HVR.out 0 (by simp)
        simp only [List.getD_cons_zero] at hv0
        have hvs : ∀ j, j < vs.length → 0 ≤ vs.getD j 0 ∧ vs.getD j 0 < gs.length := fun j hj => by simpa using HVR.out (j + 1) (by simpa using hj)
        obtain ⟨z, hz⟩ : ∃ z, buildG gs (cells.take q) vs = z := ⟨_, rfl⟩
        have hzu := build_up vs gs (cells.take q) HOK.out hvs
        rw [hz] at hzu
        have hzl := hzu.len
        have hvs2 : ∀ j, j < vs.length → 0 ≤ vs.getD j 0 ∧ vs.getD j 0 < z.2.length := fun j hj => ⟨(hvs j hj).1, by have := (hvs j hj).2; omega⟩
        obtain ⟨o, ho⟩ : ∃ o, buildG z.2 (cells.drop q) vs = o := ⟨_, rfl⟩
        have hou := build_up vs z.2 (cells.drop q) hzu.ok hvs2
        rw [ho] at hou
        have hol := hou.len
        have hbe : buildG gs cells (v :: vs) = if emptyB (cells.take q) then (o.1, o.2) else if emptyB (cells.drop q) then (z.1, o.2) else chooseG o.2 v z.1 o.1 := by
          unfold buildG
          rw [if_pos (by rw [HS0.out, HS1.out]; rfl), ← HQ.out]
          dsimp only
          rw [hz, ho]
        have hch := (choose_up hou.ok hv0.1 (a := v) (by omega) hzu.lo (by have := hzu.hi; omega) hou.lo hou.hi).len
        have hol2 : o.2.length ≤ 999000 := by
          have := HL.out
          rw [hbe] at this
          split at this
          · exact this
          split at this
          · exact this
          · omega
        have hql2 : (cells.take q).length = q := by simp; omega
        have hqh2 : (cells.drop q).length = cells.length - q := by simp
        have hq2 : q = 2 ^ vs.length := by have := HLB.out; rw [HQ.out]; omega
        have hq3 : cells.length - q = 2 ^ vs.length := by have := HLB.out; omega
        have hc1 : ∀ j, j < (cells.take q).length → (cells.take q).getD j 0 = -1 ∨ (cells.take q).getD j 0 = 0 ∨ (cells.take q).getD j 0 = 1 := fun j hj => by
          rw [getD_take _ _ (by omega)]; exact HC.out j (by omega)
        have hc2 : ∀ j, j < (cells.drop q).length → (cells.drop q).getD j 0 = -1 ∨ (cells.drop q).getD j 0 = 0 ∨ (cells.drop q).getD j 0 = 1 := fun j hj => by
          have := HC.out (q + j) (by omega)
          simpa [List.getD] using this
        have hq0 : 0 < q := by omega
        have hcq : ¬ c = q := by omega
        have key1 : ∀ (n : Nat) (vB : Value), vB = .slice (if d = 1 then some ⟨b2, o2, none⟩ else some ⟨b2, o2 + 1, none⟩) vs.length (d - 1) →
            Calls Try.prog 52 #[.pointer (some ⟨bt, 0, none⟩), .slice (some ⟨b1, o1, none⟩) q c, vB] (wr.drewN n) fun e w' => e = .returned (.int .i64 z.1) ∧ ∃ F', BC bt bg (fun b => D b ∧ b < w.heap.size) (some ⟨b1, o1, none⟩) (some ⟨b2, o2, none⟩) c d cells (v :: vs) w' z.2 F' ∧
              ∀ gs2 W2, GPost w' bg F' gs2 W2 → GPost w bg F gs2 W2 := by
          rintro n vB rfl
          have hb : Below wr.heap.size wr (wr.drewN n) := below_drewN (Below.refl _ _) n
          have h1 := hbc.below hb
          have h2 := h1.rc.take (k := q) (by omega)
          have h3 := h1.rv.cut (k := 1) (by simp)
          rw [List.drop_one, List.tail_cons, Option.map_some, add_plain] at h3
          have := HIH.out (wr.drewN n) gs F _ _ _ _ _ (cells.take q) h1.gat HOK.out h1.cell hbt h2 h3 h1.dis hvs hc1 (by omega) (by rw [hz]; omega)
          rw [hql2, hz] at this
          refine this.mono ?_
          rintro e w' ⟨rfl, hp⟩
          obtain ⟨F', k1, k2⟩ := h1.post hp
          exact ⟨rfl, F', k1, fun gs2 W2 h => (GPost.after HBW.out (GPost.after hb (k2 gs2 W2 h)))⟩
        have key2 : ∀ (w1 : World) (F1 : Dom), BC bt bg (fun b => D b ∧ b < w.heap.size) (some ⟨b1, o1, none⟩) (some ⟨b2, o2, none⟩) c d cells (v :: vs) w1 z.2 F1 → ∀ (vB : Value), vB = .slice (if d = 1 then some ⟨b2, o2, none⟩ else some ⟨b2, o2 + 1, none⟩) vs.length (d - 1) →
            Calls Try.prog 52 #[.pointer (some ⟨bt, 0, none⟩), .slice (some ⟨b1, o1 + q, none⟩) (cells.length - q) (c - q), vB] w1 fun e w' => e = .returned (.int .i64 o.1) ∧ ∃ F', BC bt bg (fun b => D b ∧ b < w.heap.size) (some ⟨b1, o1, none⟩) (some ⟨b2, o2, none⟩) c d cells (v :: vs) w' o.2 F' ∧
              ∀ gs2 W2, GPost w' bg F' gs2 W2 → GPost w1 bg F1 gs2 W2 := by
          rintro w1 F1 h1 vB rfl
          have h2 := h1.rc.cut (k := q) (by omega)
          rw [if_neg hcq, Option.map_some, add_plain] at h2
          have h3 := h1.rv.cut (k := 1) (by simp)
          rw [List.drop_one, List.tail_cons, Option.map_some, add_plain] at h3
          have := HIH.out w1 z.2 F1 _ _ _ _ _ (cells.drop q) h1.gat hzu.ok h1.cell h1.nf h2 h3 h1.dis hvs2 hc2 (by omega) (by rw [ho]; omega)
          rw [hqh2, ho] at this
          refine this.mono ?_
          rintro e w' ⟨rfl, hp⟩
          obtain ⟨F', k1, k2⟩ := h1.post hp
          exact ⟨rfl, F', k1, k2⟩
        have key3 : ∀ (W : World) (gs2 : GS) (F2 : Dom), BC bt bg (fun b => D b ∧ b < w.heap.size) (some ⟨b1, o1, none⟩) (some ⟨b2, o2, none⟩) c d cells (v :: vs) W gs2 F2 → Calls Try.prog 56 #[.slice (some ⟨b1, o1, none⟩) q c] W fun e w' => e = .returned (.bool (emptyB (cells.take q))) ∧ w' = W := by
          intro W gs2 F2 h1
          have := empty_any _ c (cells.take q) W (h1.rc.take (k := q) (by omega))
          rw [hql2] at this
          exact this
        have key4 : ∀ (W : World) (gs2 : GS) (F2 : Dom), BC bt bg (fun b => D b ∧ b < w.heap.size) (some ⟨b1, o1, none⟩) (some ⟨b2, o2, none⟩) c d cells (v :: vs) W gs2 F2 → Calls Try.prog 56 #[.slice (some ⟨b1, o1 + q, none⟩) (cells.length - q) (c - q)] W fun e w' => e = .returned (.bool (emptyB (cells.drop q))) ∧ w' = W := by
          intro W gs2 F2 h1
          have h2 := h1.rc.cut (k := q) (by omega)
          rw [if_neg hcq, Option.map_some, add_plain] at h2
          have := empty_any _ _ (cells.drop q) W h2
          rw [hqh2] at this
          exact this
        have hz1 := hzu.hi
        have key5 : ∀ (W : World) (F2 : Dom), BC bt bg (fun b => D b ∧ b < w.heap.size) (some ⟨b1, o1, none⟩) (some ⟨b2, o2, none⟩) c d cells (v :: vs) W o.2 F2 → emptyB (cells.take q) = false → emptyB (cells.drop q) = false →
            Calls Try.prog 57 #[.pointer (some ⟨bg, 0, none⟩), .int .i64 v, .int .i64 z.1, .int .i64 o.1] W fun e w' => e = .returned (.int .i64 (chooseG o.2 v z.1 o.1).1) ∧ GPost W bg F2 (chooseG o.2 v z.1 o.1).2 w' := by
          intro W F2 h1 e1 e2
          refine choose_any W bg o.2 F2 v z.1 o.1 h1.gat hou.ok hv0.1 (by omega) hzu.lo (by omega) hou.lo hou.hi ?_
          have := HL.out
          rw [hbe, e1, e2] at this
          simp at this
          omega
        have K3 := hid key3
        have K4 := hid key4
        have K5 := hid key5
        clear hz1 key3 key4 key5
        have K1 := hid key1
        have K2 := hid key2
        have HBE := hid hbe
        have HZU := hid hzu
        have HOU := hid hou
        have HV0 := hid hv0
        have HL2 := hid hql2
        have HH2 := hid hqh2
        clear key1 key2 hbe hzu hou hv0 hvs hvs2 hc1 hc2 hql2 hqh2 hz ho hbc hch hzl hgl
        clear hq2 hq3 hp2
        have hv1 : (1 : Int) ≤ (vs.length : Int) + 1 := by omega
        have hv2 : ((vs.length : Int) + 1) ≤ d := by omega
        by_cases hd1 : d = 1
        all_goals
          go_wp2_with fail
          go_quiet ((go_at_call 99; exact Calls.quiet_of_same (HX.out _)))
          go_wp2_with fail
          go_region_held3 (fun w' => w'.cell? ⟨bt, 0, none⟩ = some (.pointer (some ⟨bg, 0, none⟩)))
            (first
              | go_keep
              | exact hb2'.cell
              | exact hb1'.cell)
            (first
              | (go_at_call 52
                 with_reducible refine (K1.out _ _ (by simp [hd1])).mono ?_
                 rintro e w1 ⟨rfl, F1, hb1', hp1⟩)
              | (go_at_call 52
                 with_reducible refine (K2.out _ F1 hb1' _ (by simp [hd1])).mono ?_
                 rintro e w2 ⟨rfl, F2, hb2', hp2⟩))
          have HB2 := hid hb2'
          have HP : Hid (∀ gs2 W2, GPost w2 bg F2 gs2 W2 → GPost w bg F gs2 W2) := hid fun gs2 W2 h => hp1 _ _ (hp2 _ _ h)
          have hcell := hb2'.cell
          have hG2 := hb2'.gat
          have HG2 := hid hG2
          obtain ⟨ve, hve⟩ : ∃ e, emptyB (cells.take q) = e := ⟨_, rfl⟩
          obtain ⟨vf, hvf⟩ : ∃ e, emptyB (cells.drop q) = e := ⟨_, rfl⟩
          have hbb := HBE.out
          rw [hve, hvf] at hbb
          have HVE := hid hve
          have HVF := hid hvf
          have HBB := hid hbb
          have hxc := hb2'.at_.2
          clear hb1' hb2' hp1 hp2 hG2 hve hvf hbb
          go_wp2_with fail
          refine (K3.out w2 o.2 F2 HB2.out).mono ?_
          rw [HVE.out]
          rintro e w3 ⟨rfl, rfl⟩
          cases ve
          · go_wp2_with fail
            refine (K4.out w3 o.2 F2 HB2.out).mono ?_
            rw [HVF.out]
            rintro e w4 ⟨rfl, rfl⟩
            cases vf
            · have KEEP : Hid (∀ W W' gs', Below w4.heap.size w4 W → GPost W bg F2 gs' W' → W'.cell? ⟨bt, 0, none⟩ = some (.pointer (some ⟨bg, 0, none⟩)) ∧ W'.cell? ⟨b2, o2, none⟩ = some (.int .i64 v)) := hid fun W W' gs' h1 h2 => by
                obtain ⟨F', h3, _⟩ := (HB2.out.below h1).post h2
                exact h3.at_
              go_wp2_with fail
              go_region_held3 (fun w' => w'.cell? ⟨bt, 0, none⟩ = some (.pointer (some ⟨bg, 0, none⟩)) ∧ w'.cell? ⟨b2, o2, none⟩ = some (.int .i64 v))
                (first
                  | go_keep
                  | exact KEEP.out _ _ _ (by go_grown) hp5)
                ((go_at_call 57
                  refine (K5.out _ F2 (HB2.out.below (by go_grown)) HVE.out HVF.out).mono ?_
                  rintro e w5 ⟨rfl, hp5⟩))
              have HP5 : Hid (GPost w bg F (chooseG o.2 v z.1 o.1).2 w5) := hid (HP.out _ _ (GPost.after (by go_grown) hp5))
              clear hp5
              go_wp2_with fail
              go_ret
              rw [HBB.out]
              exact ⟨rfl, HP5.out⟩
            · go_wp2_with fail
              go_ret
              rw [HBB.out]
              exact ⟨rfl, HP.out _ _ (GPost.self HG2.out (by go_grown))⟩
          · go_wp2_with fail
            go_ret
            rw [HBB.out]
            exact ⟨rfl, HP.out _ _ (GPost.self HG2.out (by go_grown))⟩
end Go.Proofs.Ytfabdpnjjondaaa
