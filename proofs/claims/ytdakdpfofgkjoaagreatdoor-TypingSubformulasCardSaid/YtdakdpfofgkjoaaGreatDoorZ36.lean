/-
  Walk of the closures of typing.rules.
-/
import Derived.Test.YtdakdpfofgkjoaaGreatDoorZ35
set_option linter.unusedVariables false
set_option linter.unusedSimpArgs false
namespace Go.Proofs.YtdakdpfofgkjoaaGreatDoor
open Go.RowKit Go.Shelf
attribute [local go_sem] cell_alloc_old run_store_func

def wErr (r : Rq) : Int := if wordsOk r then 0 else 1
theorem words_kind {r : Rq} (h1 : r.kind ≠ 1) (h2 : r.kind ≠ 2) : wErr r = 1 := by
  unfold wErr wordsOk
  rw [decide_eq_false h1, decide_eq_false h2]; rfl
theorem words_part {r : Rq} (h : nameB r.part = false) : wErr r = 1 := by
  unfold wErr wordsOk
  rw [h]; simp
theorem words_name {r : Rq} (h : nameB r.name = false) : wErr r = 1 := by
  unfold wErr wordsOk
  rw [h]; simp
theorem words_yes {r : Rq} (h : r.kind = 1 ∨ r.kind = 2) (h2 : nameB r.part = true) (h3 : nameB r.name = true) : wErr r = 0 := by
  unfold wErr wordsOk
  rw [h2, h3]
  rcases h with h | h <;> rw [h] <;> rfl
theorem reqErr_eq (l : List Sg) (rs : List Rq) (i : Nat) : reqErr l rs i = if wErr (rs.getD i default) ≠ 0 then wErr (rs.getD i default) else if firstN (rs.getD i default).name (rqNames rs) < i then 4 else formErr l (rs.getD i default).f := by
  unfold reqErr wErr
  cases wordsOk (rs.getD i default) <;> simp
theorem bneI_t {a b : Int} (h : a ≠ b) : (a != b) = true := bne_iff_ne.2 h
theorem bneI_f {a b : Int} (h : a = b) : (a != b) = false := by rw [h]; simp
set_option maxRecDepth 100000 in
set_option maxHeartbeats 4000000 in
theorem words_any {E : Dom} (rs : List Rq) (i sb pb : Nat) (AS : Option Addr) (n cS : Nat) (AR : Option Addr) (m cR : Nat) (w : World) (hi : i < rs.length) (hp : w.heap[pb]? = some (.cells #[.pointer (some ⟨sb, 0, none⟩)] 68 (0, 0))) (hs : SpecAt w sb AS n cS AR m cR) (hm : m = rs.length) (hr : RdR w E AR cR rs) (hk : GK w) :
    Calls Tryz.prog 70 #[.int .i64 (i : Int), .pointer (some ⟨pb, 0, none⟩)] w fun e w' => e = .returned (.int .i64 (wErr (rs.getD i default))) ∧ Below w.heap.size w w' := by
  subst hm
  obtain ⟨b, o, A1, c1, r, rfl, HX, hr1⟩ := hr.get hi
  have hlen := hr.len.1
  obtain ⟨_, hlb, n0, n1, n2, _, _, _, _, _, _⟩ := hr1
  rw [HX.out]
  clear HX hr
  obtain ⟨s0, s1, s2⟩ := hs.cells
  have p0 := block_cell hp (i := 0) rfl
  have p1 := lt_of_block hp
  have hii : (i : Int) < rs.length := by omega
  have HK := hid hk
  clear hs hp hk
  have HN1 := hid (name_any r.part w HK.out)
  have HN2 := hid (fun (W : World) (hb : Below w.heap.size w W) => name_any r.name W (HK.out.below hb HK.out.pos))
  by_cases k1 : r.kind = 1
  · have d1 := bneI_f k1
    have HKD := hid (show r.kind = 1 ∨ r.kind = 2 from .inl k1)
    clear k1
    cases q1 : nameB r.part
    · have HR := hid (words_part q1)
      rw [q1] at HN1
      clear q1
      go_enter Tryz.func70, Tryz.ntmps70
      go_wp2_with (go_at_call 60; (with_reducible refine HN1.out.mono ?_); rintro e W2 ⟨rfl, hb2⟩; have m1 := (hb2.cell (p := ⟨b, o + i * 8 + 1, none⟩) hlb).trans n1; have hl2 := Nat.lt_of_lt_of_le hlb hb2.size; have HB2 := hid hb2; clear hb2 n0 n1 n2 hlb)
      go_ret
      exact ⟨ret_int HR.out.symm, HB2.out⟩
    have HQ1 := hid q1
    rw [q1] at HN1
    clear q1
    cases q2 : nameB r.name
    · have HR := hid (words_name q2)
      rw [q2] at HN2
      clear q2
      go_enter Tryz.func70, Tryz.ntmps70
      go_wp2_with (first | (go_at_call 60; (with_reducible refine HN1.out.mono ?_); rintro e W2 ⟨rfl, hb2⟩; have m1 := (hb2.cell (p := ⟨b, o + i * 8 + 1, none⟩) hlb).trans n1; have hl2 := Nat.lt_of_lt_of_le hlb hb2.size; have HB2 := hid hb2; clear hb2 n0 n1 n2 hlb) | (go_at_call 60; (with_reducible refine (HN2.out _ HB2.out).mono ?_); rintro e W3 ⟨rfl, hb3⟩; have HB3 := hid (HB2.out.trans (hb3.mono HB2.out.size)); clear hb3))
      go_ret
      exact ⟨ret_int HR.out.symm, HB3.out⟩
    have HR := hid (words_yes HKD.out HQ1.out q2)
    rw [q2] at HN2
    clear q2
    go_enter Tryz.func70, Tryz.ntmps70
    go_wp2_with (first | (go_at_call 60; (with_reducible refine HN1.out.mono ?_); rintro e W2 ⟨rfl, hb2⟩; have m1 := (hb2.cell (p := ⟨b, o + i * 8 + 1, none⟩) hlb).trans n1; have hl2 := Nat.lt_of_lt_of_le hlb hb2.size; have HB2 := hid hb2; clear hb2 n0 n1 n2 hlb) | (go_at_call 60; (with_reducible refine (HN2.out _ HB2.out).mono ?_); rintro e W3 ⟨rfl, hb3⟩; have HB3 := hid (HB2.out.trans (hb3.mono HB2.out.size)); clear hb3))
    go_ret
    exact ⟨ret_int HR.out.symm, HB3.out⟩
  have d1 := bneI_t k1
  by_cases k2 : r.kind = 2
  · have d2 := bneI_f k2
    have HKD := hid (show r.kind = 1 ∨ r.kind = 2 from .inr k2)
    clear k1 k2
    cases q1 : nameB r.part
    · have HR := hid (words_part q1)
      rw [q1] at HN1
      clear q1
      go_enter Tryz.func70, Tryz.ntmps70
      go_wp2_with (go_at_call 60; (with_reducible refine HN1.out.mono ?_); rintro e W2 ⟨rfl, hb2⟩; have m1 := (hb2.cell (p := ⟨b, o + i * 8 + 1, none⟩) hlb).trans n1; have hl2 := Nat.lt_of_lt_of_le hlb hb2.size; have HB2 := hid hb2; clear hb2 n0 n1 n2 hlb)
      go_ret
      exact ⟨ret_int HR.out.symm, HB2.out⟩
    have HQ1 := hid q1
    rw [q1] at HN1
    clear q1
    cases q2 : nameB r.name
    · have HR := hid (words_name q2)
      rw [q2] at HN2
      clear q2
      go_enter Tryz.func70, Tryz.ntmps70
      go_wp2_with (first | (go_at_call 60; (with_reducible refine HN1.out.mono ?_); rintro e W2 ⟨rfl, hb2⟩; have m1 := (hb2.cell (p := ⟨b, o + i * 8 + 1, none⟩) hlb).trans n1; have hl2 := Nat.lt_of_lt_of_le hlb hb2.size; have HB2 := hid hb2; clear hb2 n0 n1 n2 hlb) | (go_at_call 60; (with_reducible refine (HN2.out _ HB2.out).mono ?_); rintro e W3 ⟨rfl, hb3⟩; have HB3 := hid (HB2.out.trans (hb3.mono HB2.out.size)); clear hb3))
      go_ret
      exact ⟨ret_int HR.out.symm, HB3.out⟩
    have HR := hid (words_yes HKD.out HQ1.out q2)
    rw [q2] at HN2
    clear q2
    go_enter Tryz.func70, Tryz.ntmps70
    go_wp2_with (first | (go_at_call 60; (with_reducible refine HN1.out.mono ?_); rintro e W2 ⟨rfl, hb2⟩; have m1 := (hb2.cell (p := ⟨b, o + i * 8 + 1, none⟩) hlb).trans n1; have hl2 := Nat.lt_of_lt_of_le hlb hb2.size; have HB2 := hid hb2; clear hb2 n0 n1 n2 hlb) | (go_at_call 60; (with_reducible refine (HN2.out _ HB2.out).mono ?_); rintro e W3 ⟨rfl, hb3⟩; have HB3 := hid (HB2.out.trans (hb3.mono HB2.out.size)); clear hb3))
    go_ret
    exact ⟨ret_int HR.out.symm, HB3.out⟩
  have d2 := bneI_t k2
  have HR := hid (words_kind k1 k2)
  clear k1 k2
  go_enter Tryz.func70, Tryz.ntmps70
  go_wp2_with fail
  go_ret
  exact ⟨ret_int HR.out.symm, Below.refl _ _⟩
set_option maxRecDepth 100000 in
set_option maxHeartbeats 4000000 in
theorem twice_any {E : Dom} (rs : List Rq) (i sb pb fb mb : Nat) (AS : Option Addr) (n cS : Nat) (AR : Option Addr) (m cR : Nat) (w : World) (hi : i < rs.length) (hp : w.heap[pb]? = some (.cells #[.pointer (some ⟨sb, 0, none⟩)] 68 (0, 0))) (hfb : w.heap[fb]? = some (.cells #[.map (some mb)] 99 (0, 0))) (hmp : FirstM w mb (rqNames rs) (rqNames rs).length) (hs : SpecAt w sb AS n cS AR m cR) (hm : m = rs.length) (hr : RdR w E AR cR rs) :
    Calls Tryz.prog 71 #[.int .i64 (i : Int), .pointer (some ⟨fb, 0, none⟩), .pointer (some ⟨pb, 0, none⟩)] w fun e w' => e = .returned (.int .i64 (if firstN (rs.getD i default).name (rqNames rs) < i then 4 else 0)) ∧ Below w.heap.size w w' := by
  subst hm
  obtain ⟨b, o, A1, c1, r, rfl, HX, hr1⟩ := hr.get hi
  have hlen := hr.len.1
  obtain ⟨_, hlb, _, n1, _, _, _, _, _, _, _⟩ := hr1
  rw [HX.out]
  have hfl : firstN r.name (rqNames rs) < (rqNames rs).length := by
    rw [firstN_lt, ← HX.out]
    exact List.mem_map_of_mem (getD_mem hi)
  clear HX hr
  obtain ⟨s0, s1, s2⟩ := hs.cells
  have p0 := block_cell hp (i := 0) rfl
  have p1 := lt_of_block hp
  have f0 := block_cell hfb (i := 0) rfl
  have f1 := lt_of_block hfb
  have hii : (i : Int) < rs.length := by omega
  obtain ⟨q, hq⟩ : ∃ q, firstN r.name (rqNames rs) = q := ⟨_, rfl⟩
  have hlk : ∀ n, (Instr.lookup 99 (.map (some mb)) (.string r.name) false).run Tryz.prog (w.drewN n) = .ok (.int .i64 (q : Int)) (w.drewN n) := fun n => by
    have := (hmp.of_block (w' := w.drewN n) rfl).look r.name
    rw [if_pos hfl, hq] at this
    exact this
  rw [hq]
  clear hq hfl hmp hs hp hfb
  by_cases hqi : q < i
  · have hqq : (q : Int) < (i : Int) := by omega
    rw [if_pos hqi]
    clear hqi
    go_enter Tryz.func71, Tryz.ntmps71
    go_upto_region 1 with (fail)
    go_quiet (fail)
    go_wp2_with fail
    go_ret
    exact ⟨rfl, (Drawn.n _ _).below _⟩
  · have hqq : ¬ (q : Int) < (i : Int) := by omega
    rw [if_neg hqi]
    clear hqi
    go_enter Tryz.func71, Tryz.ntmps71
    go_upto_region 1 with (fail)
    go_quiet (fail)
    go_wp2_with fail
    go_ret
    exact ⟨rfl, (Drawn.n _ _).below _⟩
set_option maxRecDepth 100000 in
set_option maxHeartbeats 4000000 in
theorem content_any {D E : Dom} (l : List Sg) (rs : List Rq) (i sb pb : Nat) (AS : Option Addr) (n cS : Nat) (AR : Option Addr) (m cR : Nat) (w : World) (hi : i < rs.length) (hp : w.heap[pb]? = some (.cells #[.pointer (some ⟨sb, 0, none⟩)] 68 (0, 0))) (hs : SpecAt w sb AS n cS AR m cR) (hn : n = l.length) (hl : RdG w D AS cS l) (hm : m = rs.length) (hr : RdR w E AR cR rs) (hg : GF w) (hk : GK w) :
    Calls Tryz.prog 72 #[.int .i64 (i : Int), .pointer (some ⟨pb, 0, none⟩)] w fun e w' => e = .returned (.int .i64 (formErr l (rs.getD i default).f)) ∧ Below w.heap.size w w' := by
  subst hm hn
  obtain ⟨b, o, A1, c1, r, rfl, HX, hr1⟩ := hr.get hi
  have hlen := hr.len.1
  have HF := hid hr1.form
  have HL := hid hl.old
  have HG := hid hg
  have HK := hid hk
  obtain ⟨_, hlb, _, _, _, n3, n4, n5, n6, n7, _⟩ := hr1
  rw [HX.out]
  clear HX hr hl hg hk
  have HC := hid (fun (W : World) (hb : Below w.heap.size w W) => typform_any l AS cS l.length r.f _ W rfl (HL.out.any hb) ⟨A1, c1, rfl, HF.out.args.any hb⟩ (HG.out.below hb HG.out.pos) (HK.out.below hb HK.out.pos))
  obtain ⟨s0, s1, s2⟩ := hs.cells
  have p0 := block_cell hp (i := 0) rfl
  have p1 := lt_of_block hp
  have hii : (i : Int) < rs.length := by omega
  have HCELL : Hid (∀ W' : World, Below w.heap.size w W' → W'.cell? ⟨pb, 0, none⟩ = some (.pointer (some ⟨sb, 0, none⟩)) ∧ W'.cell? ⟨sb, 0, none⟩ = some (.slice AS l.length cS) ∧ W'.cell? ⟨sb, 1, none⟩ = some (.slice (some ⟨b, o, none⟩) rs.length cR) ∧ W'.cell? ⟨b, o + i * 8 + 3, none⟩ = some (.int .i64 r.f.op) ∧ W'.cell? ⟨b, o + i * 8 + 4, none⟩ = some (.string r.f.name) ∧ W'.cell? ⟨b, o + i * 8 + 5, none⟩ = some (.int .i64 r.f.val) ∧ W'.cell? ⟨b, o + i * 8 + 6, none⟩ = some (.int .i64 r.f.bound) ∧ W'.cell? ⟨b, o + i * 8 + 7, none⟩ = some (.slice A1 r.f.args.length c1)) := hid fun W' hb => ⟨(hb.cell (p := ⟨pb, 0, none⟩) p1).trans p0, (hb.cell (p := ⟨sb, 0, none⟩) s2).trans s0, (hb.cell (p := ⟨sb, 1, none⟩) s2).trans s1, (hb.cell (p := ⟨b, o + i * 8 + 3, none⟩) hlb).trans n3, (hb.cell (p := ⟨b, o + i * 8 + 4, none⟩) hlb).trans n4, (hb.cell (p := ⟨b, o + i * 8 + 5, none⟩) hlb).trans n5, (hb.cell (p := ⟨b, o + i * 8 + 6, none⟩) hlb).trans n6, (hb.cell (p := ⟨b, o + i * 8 + 7, none⟩) hlb).trans n7⟩
  clear hs hp
  go_enter Tryz.func72, Tryz.ntmps72
  go_upto_region 1 with (fail)
  go_region_held3 (fun W' : World => W'.cell? ⟨pb, 0, none⟩ = some (.pointer (some ⟨sb, 0, none⟩)) ∧ W'.cell? ⟨sb, 0, none⟩ = some (.slice AS l.length cS) ∧ W'.cell? ⟨sb, 1, none⟩ = some (.slice (some ⟨b, o, none⟩) rs.length cR) ∧ W'.cell? ⟨b, o + i * 8 + 3, none⟩ = some (.int .i64 r.f.op) ∧ W'.cell? ⟨b, o + i * 8 + 4, none⟩ = some (.string r.f.name) ∧ W'.cell? ⟨b, o + i * 8 + 5, none⟩ = some (.int .i64 r.f.val) ∧ W'.cell? ⟨b, o + i * 8 + 6, none⟩ = some (.int .i64 r.f.bound) ∧ W'.cell? ⟨b, o + i * 8 + 7, none⟩ = some (.slice A1 r.f.args.length c1))
    (first | (with_reducible exact HCELL.out _ HB2.out) | (go_keep; done))
    ((go_at_call 10; (with_reducible refine (HC.out _ ?_).mono ?_); (first | exact Below.refl _ _ | go_grown | exact (Drawn.n _ _).below _); rintro e W2 ⟨rfl, hb2⟩; have HB2 := hid ((show Below w.heap.size w _ by first | exact Below.refl _ _ | go_grown | exact (Drawn.n _ _).below _).trans (hb2.mono (by first | exact Nat.le_refl _ | simp))); clear hb2))
  all_goals
    go_wp2_with fail
    go_ret
    exact ⟨rfl, HB2.out⟩
end Go.Proofs.YtdakdpfofgkjoaaGreatDoor
