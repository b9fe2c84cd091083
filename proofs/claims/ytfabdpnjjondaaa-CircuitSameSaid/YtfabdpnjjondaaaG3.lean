/-
  Walks of add, constant, not.
-/
import Derived.Test.YtfabdpnjjondaaaG2
set_option linter.unusedVariables false
set_option linter.unusedSimpArgs false
namespace Go.Proofs.Ytfabdpnjjondaaa
open Go.RowKit
attribute [local go_sem] cell_alloc_old

theorem flat_len (gs : GS) : (gs.flatMap gcells).length = gs.length * 3 := by
  induction gs with
  | nil => rfl
  | cons g gs ih => simp [gcells, ih]; omega

theorem Chg.set {F : Dom} {w w' : World} (h : Chg F w w') {p : Addr} (hp : F p.block) (u : Value) : Chg F w (w'.setCell p u) :=
  h.trans (F' := F) ⟨rfl, rfl, rfl, by simp, fun b _ hn => Below.heap_setCell _ _ _ _ (fun e => hn (e ▸ hp))⟩ (fun _ h => .inl h)
theorem own_ne_map {w : World} {base n size : Nat} {e : TypeId} {v : Value} {xs : List Value} {κ : Type} [DecidableEq κ] {enc : κ → Value} {mb : Nat} {l : List (κ × Value)} (h : w.ownsRow base e size v n xs) (hm : MapIs enc w mb l) : some mb ≠ v.ownBlock := by
  rcases h.2 with ⟨rfl, _⟩ | ⟨g', cap, cur, rfl, _, hh, _⟩
  · simp [Value.ownBlock]
  · intro he
    have : mb = g' := by simpa [Value.ownBlock] using he
    subst this
    obtain ⟨es, cl, h3, _⟩ := hm
    rw [hh] at h3; cases h3
theorem added {w W4 w5 : World} {bg mb : Nat} {gs : GS} {g : Gt} {F : Dom} {A A5 : Option Addr} {c c5 : Nat} {o : Obj}
    (hF : ∀ b, F b ↔ b = bg ∨ b = mb ∨ some b = (Value.slice A gs.length c).ownBlock) (hc4 : Chg F w W4) (hbm : bg ≠ mb)
    (hm4 : MapIs gval W4 mb (numbered gs ++ [(g, .int .i64 gs.length)])) (hr4 : W4.ownsRow 0 45 3 (.slice A gs.length c) gs.length (gs.flatMap gcells))
    (hg5 : (W4.alloc o).drew.grownBy w5 (Value.slice A gs.length c).ownBlock) (hb5 : w5.heap[bg]? = some (.cells #[.slice A gs.length c, .map (some mb)] 72 (0, 0)))
    (hown5 : w5.ownsRow 0 45 3 (.slice A5 (gs.length + 1) c5) (gs.length + 1) (gs.flatMap gcells ++ [.int .i64 g.k, .int .i64 g.a, .int .i64 g.b]))
    (hat5 : (Value.slice A5 (gs.length + 1) c5).ownBlock = (Value.slice A gs.length c).ownBlock ∨ (Value.slice A5 (gs.length + 1) c5).ownBlock = some (W4.alloc o).drew.heap.size) :
    GPost w bg F (gs ++ [g]) (w5.setCell ⟨bg, 0, none⟩ (.slice A5 (gs.length + 1) c5)) := by
  have hl : (gs ++ [g]).length = gs.length + 1 := by simp
  have hne := own_ne hown5 hb5 (by decide)
  have hcw : Chg F w w5 := (hc4.trans (F' := F) (Chg.of_below (((Below.refl _ _).alloc (Nat.le_refl _) o).drew)) (fun _ h => .inl h)).trans (Chg.of_grown (F := F) hg5 (fun k hk => (hF k).2 (.inr (.inr hk.symm)))) (fun _ h => .inl h)
  refine ⟨fun b => b = bg ∨ b = mb ∨ some b = (Value.slice A5 (gs.length + 1) c5).ownBlock, ⟨A5, c5, mb, ?_, ?_, ?_, fun b => by rw [hl]⟩, fun b hb => ?_, hcw.set ((hF bg).2 (.inl rfl)) _⟩
  · rw [hl]
    exact set_block hb5 _
  · rw [hl, List.flatMap_append]
    exact ownsRow_setCell_other hown5 hne _
  · rw [numbered_snoc]
    refine hm4.of_block ?_
    rw [Below.heap_setCell _ _ _ _ (show mb ≠ bg from fun e => hbm e.symm), hg5.block mb (by have := hm4.lt; simp; omega) (own_ne_map hr4 hm4)]
    exact Below.heap_alloc _ _ _ hm4.lt
  · rcases hb with rfl | rfl | e
    · exact .inl ((hF b).2 (.inl rfl))
    · exact .inl ((hF b).2 (.inr (.inl rfl)))
    · rcases hat5 with h | h
      · exact .inl ((hF b).2 (.inr (.inr (e.trans h))))
      · rw [h] at e
        have := hc4.size
        simp at e
        exact .inr (by omega)

set_option maxHeartbeats 2000000 in
theorem add_any (w : World) (bg : Nat) (gs : GS) (F : Dom) (g : Gt) (hG : Gat w bg gs F) (hl : gs.length ≤ 1000000) :
    Calls Try.prog 50 #[.pointer (some ⟨bg, 0, none⟩), .agg #[.int .i64 g.k, .int .i64 g.a, .int .i64 g.b]] w fun e w' =>
      e = .returned (.int .i64 (addG gs g).1) ∧ GPost w bg F (addG gs g).2 w' := by
  obtain ⟨i0, hi, hz0, hz1, hz2⟩ := info_parts gate_info
  have hz2' : i0.bytes = 24 := hz2
  have hG' := hG
  obtain ⟨A, c, mb, hb, hrow, hmap, hF⟩ := hG
  have hbl := lt_of_block hb
  have hml := hmap.lt
  have HF := hid hF
  have HMAP := hid hmap
  have HROW := hid hrow
  have HB := hid hb
  by_cases hg : g ∈ gs
  · have hlook : ∀ n, (Instr.lookup 70 (.map (some mb)) (.agg #[.int .i64 g.k, .int .i64 g.a, .int .i64 g.b]) true).run Try.prog ((w.alloc (.cells #[.int .i64 g.k, .int .i64 g.a, .int .i64 g.b] 45)).drewN n) = .ok (.tuple #[.int .i64 (gs.idxOf g : Nat), .bool true]) ((w.alloc (.cells #[.int .i64 g.k, .int .i64 g.a, .int .i64 g.b] 45)).drewN n) := by
      intro n
      have h1 : MapIs gval ((w.alloc (.cells #[.int .i64 g.k, .int .i64 g.a, .int .i64 g.b] 45)).drewN n) mb (numbered gs) := hmap.of_block (Below.heap_alloc w _ mb hml)
      have := run_lookup_is gate_key (T := 70) (E := 3) (by kernel_rfl) (int_zero _) h1 g true
      rw [numbered_look, if_pos hg] at this
      exact this
    have HADD : Hid (addG gs g = (((gs.idxOf g : Nat) : Int), gs)) := hid (if_pos hg)
    obtain ⟨W, hW⟩ : ∃ W, W = w.alloc (.cells #[.int .i64 g.k, .int .i64 g.a, .int .i64 g.b] 45) := ⟨_, rfl⟩
    have hWb : Below w.heap.size w W := by rw [hW]; go_grown
    have HWB := hid hWb
    have x0 : W.cell? ⟨w.heap.size, 0, none⟩ = some (.int .i64 g.k) := by rw [hW]; exact cell_new _ _ _ _ _ _ rfl rfl
    have x1 : W.cell? ⟨w.heap.size, 1, none⟩ = some (.int .i64 g.a) := by rw [hW]; exact cell_new _ _ _ _ _ _ rfl rfl
    have x2 : W.cell? ⟨w.heap.size, 2, none⟩ = some (.int .i64 g.b) := by rw [hW]; exact cell_new _ _ _ _ _ _ rfl rfl
    have y1 : W.cell? ⟨bg, 1, none⟩ = some (.map (some mb)) := by
      have e1 := hWb.block bg hbl
      simp [World.cell?, e1, hb]
    rw [← hW] at hlook
    have HLOOK := hid hlook
    have HW := hid hW
    clear hW hWb hlook hF hmap hrow hb hg
    go_enter Try.func50, Try.ntmps50
    go_wp2_with fail
    rw [← HW.out]
    have hlook := HLOOK.out
    go_quiet (fail)
    clear hlook
    go_wp2_with fail
    go_ret
    exact ⟨ret_int (by rw [HADD.out]), by rw [HADD.out]; exact ⟨F, (hG'.below HWB.out).below ((Drawn.n _ _).below _), fun _ h => .inl h, (Chg.of_below HWB.out).trans (Chg.of_below (F := F) ((Drawn.n _ _).below _)) (fun _ h => .inl h)⟩⟩
  · have hlook : ∀ n, (Instr.lookup 70 (.map (some mb)) (.agg #[.int .i64 g.k, .int .i64 g.a, .int .i64 g.b]) true).run Try.prog ((w.alloc (.cells #[.int .i64 g.k, .int .i64 g.a, .int .i64 g.b] 45)).drewN n) = .ok (.tuple #[.int .i64 0, .bool false]) ((w.alloc (.cells #[.int .i64 g.k, .int .i64 g.a, .int .i64 g.b] 45)).drewN n) := by
      intro n
      have h1 : MapIs gval ((w.alloc (.cells #[.int .i64 g.k, .int .i64 g.a, .int .i64 g.b] 45)).drewN n) mb (numbered gs) := hmap.of_block (Below.heap_alloc w _ mb hml)
      have := run_lookup_is gate_key (T := 70) (E := 3) (by kernel_rfl) (int_zero _) h1 g true
      rw [numbered_look, if_neg hg] at this
      exact this
    have HADD : Hid (addG gs g = (((gs.length : Nat) : Int), gs ++ [g])) := hid (if_neg hg)
    obtain ⟨W, hW⟩ : ∃ W, W = w.alloc (.cells #[.int .i64 g.k, .int .i64 g.a, .int .i64 g.b] 45) := ⟨_, rfl⟩
    have hWb : Below w.heap.size w W := by rw [hW]; go_grown
    have hWs : W.heap.size = w.heap.size + 1 := by rw [hW]; simp
    have x0 : W.cell? ⟨w.heap.size, 0, none⟩ = some (.int .i64 g.k) := by rw [hW]; exact cell_new _ _ _ _ _ _ rfl rfl
    have x1 : W.cell? ⟨w.heap.size, 1, none⟩ = some (.int .i64 g.a) := by rw [hW]; exact cell_new _ _ _ _ _ _ rfl rfl
    have x2 : W.cell? ⟨w.heap.size, 2, none⟩ = some (.int .i64 g.b) := by rw [hW]; exact cell_new _ _ _ _ _ _ rfl rfl
    have hbW : W.heap[bg]? = some (.cells #[.slice A gs.length c, .map (some mb)] 72 (0, 0)) := (hWb.block bg hbl).trans hb
    have y0 : W.cell? ⟨bg, 0, none⟩ = some (.slice A gs.length c) := block_cell hbW rfl
    have y1 : W.cell? ⟨bg, 1, none⟩ = some (.map (some mb)) := block_cell hbW rfl
    have hmW : MapIs gval W mb (numbered gs) := hmap.of_block (hWb.block mb hml)
    have hrW := own_below hrow hWb
    have hbm : bg ≠ mb := by
      rintro rfl
      obtain ⟨es, cl, h1, _⟩ := hmap
      rw [hb] at h1; cases h1
    have hBW : Box W w.heap.size #[.int .i64 g.k, .int .i64 g.a, .int .i64 g.b] := by rw [hW]; exact Box.new _ _ _ rfl
    rw [← hW] at hlook
    have HLOOK := hid hlook
    have HWB := hid hWb
    have HBW := hid hbW
    have HMW := hid hmW
    have HRW := hid hrW
    have HWS := hid hWs
    have HBX := hid hBW
    have HG := hid hg
    have HW := hid hW
    clear hW hWb hlook hF hmap hrow hb hbW hmW hrW hWs hBW hg
    go_enter Try.func50, Try.ntmps50
    go_wp2_with fail
    rw [← HW.out]
    have hlook := HLOOK.out
    go_quiet (fail)
    clear hlook
    go_wp2_with fail
    refine wp_gen fun W3 hW3 => ?_
    have hd3 : Drawn W W3 := ⟨nq, hW3⟩
    have hm3 : MapIs gval W3.drew mb (numbered gs) := by rw [hW3]; exact HMW.out
    obtain ⟨W4, hrun, hm4, hg4, hs4⟩ := run_update_new gate_key (T := 70) (E := 3) (by kernel_rfl) hm3 g (.int .i64 gs.length) (by rw [numbered_keys]; exact HG.out)
    have x0' : W3.cell? ⟨w.heap.size, 0, none⟩ = some (.int .i64 g.k) := by rw [hW3]; exact x0
    have x1' : W3.cell? ⟨w.heap.size, 1, none⟩ = some (.int .i64 g.a) := by rw [hW3]; exact x1
    have x2' : W3.cell? ⟨w.heap.size, 2, none⟩ = some (.int .i64 g.b) := by rw [hW3]; exact x2
    have y1' : W3.cell? ⟨bg, 1, none⟩ = some (.map (some mb)) := by rw [hW3]; exact y1
    have hrun' : (Instr.mapUpdate 70 (.map (some mb)) (.agg #[.int .i64 g.k, .int .i64 g.a, .int .i64 g.b]) (.int .i64 gs.length)).run Try.prog W3.drew = .ok () W4 := hrun
    have hb4 : W4.heap[bg]? = some (.cells #[.slice A gs.length c, .map (some mb)] 72 (0, 0)) := by
      rw [hg4.block bg (by rw [hW3]; show bg < W.heap.size; rw [HWS.out]; omega) (by simp [hbm]), hW3]; exact HBW.out
    have hbx4 : Box W4 w.heap.size #[.int .i64 g.k, .int .i64 g.a, .int .i64 g.b] := (show Box W3.drew _ _ by rw [hW3]; exact HBX.out).grown hg4 (by simp; omega)
    have hr4 : W4.ownsRow 0 45 3 (.slice A gs.length c) gs.length (gs.flatMap gcells) := (show W3.drew.ownsRow _ _ _ _ _ _ by rw [hW3]; exact HRW.out).kept hg4 (by
      rcases HRW.out.2 with ⟨h1, _⟩ | ⟨g', cap, cur, h1, _, h2, _⟩
      · exact .inl (by rw [h1]; rfl)
      · refine .inr ?_
        rw [h1]
        simp only [Value.ownBlock, ne_eq, Option.some.injEq]
        rintro rfl
        obtain ⟨es, cl, h3, _⟩ := HMW.out
        rw [h2] at h3; cases h3)
    have hs4' : W4.heap.size = w.heap.size + 1 := by rw [hs4, hW3]; exact HWS.out
    have hne := own_ne hr4 hb4 (by decide)
    have hbox4 := hbx4
    have z0 := hbx4 0 _ rfl
    have z1 := hbx4 1 _ rfl
    have z2 := hbx4 2 _ rfl
    have zb := block_cell hb4 (i := 0) rfl
    have zf := block_free hb4 (i := 0)
    have HM4 := hid hm4
    have HG4 := hid hg4
    have HB4 := hid hb4
    have HR4 := hid hr4
    have HS4 := hid hs4'
    have HBX4 := hid hbx4
    have HNE := hid hne
    have HD3 := hid hd3
    clear hW3 hm3 hrun x0 x1 x2 y0 y1 hm4 hg4 hs4 hb4 hbx4 hr4 hs4' hbox4 hne hd3
    go_still_tail 6, (by kernel_rfl)
    simp only [World.drew_eq]
    go_wp2_with fail
    clear hrun' x0' x1' x2' y1'
    have hbl4 : bg < W4.heap.size := by have := HS4.out; omega
    go_region_law
      ((refine step_append_rd _ (by rfl) _ _ 22 (by rfl) 0 45 i0 _ 3 24 Try.underlying22 hi hz0 hz1 hz2 rfl (by omega) (.slice A gs.length c) gs.length _ (by rfl) (HR4.out.alloc _) _ (some ⟨W4.heap.size, 0, none⟩) 1 1 _ (by rfl) (Rd.cell3 (cell_new W4 _ _ _ _ _ rfl rfl) (cell_new W4 _ _ _ _ _ rfl rfl) (cell_new W4 _ _ _ _ _ rfl rfl)) (by simp [Value.oneCell']) (by omega) (maxLen_le (by omega)) (Nat.zero_le _) ?_
        intro A5 c5 w5 hown5 hg5 hat5
        have hb5 : w5.heap[bg]? = some (.cells #[.slice A gs.length c, .map (some mb)] 72 (0, 0)) := (hg5.block bg (by have := HS4.out; simp; omega) (fun e => HNE.out e.symm)).trans ((Below.heap_alloc W4 _ bg (by have := HS4.out; omega)).trans HB4.out)
        have hc5 := block_cell hb5 (i := 0) rfl
        have hf5 := block_free hb5 (i := 0)))
    all_goals
      clear hc5 hf5
      have HB5 := hid hb5
      clear hb5 z0 z1 z2 zb zf
      go_wp2_with fail
      go_ret
      rw [HADD.out]
      exact ⟨rfl, added HF.out (((Chg.of_below HWB.out).trans (F' := F) (Chg.of_below (HD3.out.drew.below _)) (fun _ h => .inl h)).trans (F' := F) (Chg.of_grown HG4.out (fun k hk => (HF.out k).2 (.inr (.inl (by simpa using hk.symm))))) (fun _ h => .inl h)) hbm HM4.out HR4.out hg5 HB5.out hown5 hat5⟩
end Go.Proofs.Ytfabdpnjjondaaa
