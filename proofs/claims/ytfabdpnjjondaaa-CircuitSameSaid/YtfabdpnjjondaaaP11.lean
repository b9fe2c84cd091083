/-
  The compiled circuit steps as the controller does.
-/
import Derived.Test.YtfabdpnjjondaaaP10
import Derived.Test.YtfabdpnjjondaaaG16
set_option linter.unusedVariables false
set_option linter.unusedSimpArgs false
namespace Go.Proofs.Ytfabdpnjjondaaa

theorem bitZ_nat (x i : Nat) : bitZ (x : Int) i = ((x / 2 ^ i % 2 : Nat) : Int) := by
  unfold bitZ
  rw [pow2_eq]
  simp
theorem pow2_nat (n : Nat) : pow2 n = ((2 ^ n : Nat) : Int) := by rw [pow2_eq]; simp
section
variable {lat inp : Int} {gs hs : GS}
theorem rowV_pre (h : gs <+: hs) : ∀ (vars : List Int), (∀ j, j < vars.length → 0 ≤ vars.getD j 0 ∧ vars.getD j 0 < gs.length) → rowV lat inp hs vars = rowV lat inp gs vars
  | [], _ => rfl
  | v :: vs, hv => by
    have h0 := hv 0 (by simp)
    simp only [List.getD_cons_zero] at h0
    rw [rowV, rowV, V_pre lat inp h h0.1 h0.2, rowV_pre h vs (fun j hj => by simpa using hv (j + 1) (by simpa using hj))]
theorem rowV_app : ∀ (vs ws : List Int), rowV lat inp gs (vs ++ ws) = rowV lat inp gs vs * 2 ^ ws.length + rowV lat inp gs ws
  | [], ws => by simp [rowV]
  | v :: vs, ws => by
    rw [List.cons_append, rowV, rowV, rowV_app vs ws, List.length_append, Nat.pow_add, Nat.add_mul, Nat.mul_assoc, Nat.add_assoc]
theorem rowV_bits (x : Nat) : ∀ (vs : List Int), (∀ j, j < vs.length → V lat inp gs (vs.getD j 0) = bitZ (x : Int) (vs.length - 1 - j)) → rowV lat inp gs vs = x % 2 ^ vs.length
  | [], _ => by simp [rowV, Nat.mod_one]
  | v :: vs, h => by
    have h0 := h 0 (by simp)
    simp only [List.getD_cons_zero, List.length_cons] at h0
    rw [show vs.length + 1 - 1 - 0 = vs.length by omega, bitZ_nat] at h0
    rw [rowV, h0, Int.toNat_natCast, rowV_bits x vs (fun j hj => by
      have := h (j + 1) (by simpa using hj)
      rw [List.getD_cons_succ, List.length_cons, show vs.length + 1 - 1 - (j + 1) = vs.length - 1 - j by omega] at this
      exact this), List.length_cons, Nat.mod_pow_succ, Nat.mul_comm, Nat.add_comm]
theorem sum_bits (y : Nat) {l : List Int} : ∀ k, (∀ j, j < k → V lat inp gs (l.getD j 0) = bitZ (y : Int) j) → sumV lat inp gs l k = ((y % 2 ^ k : Nat) : Int)
  | 0, _ => by simp [sumV, Nat.mod_one]
  | k + 1, h => by
    rw [sumV, sum_bits y k (fun j hj => h j (by omega)), h k (by omega), bitZ_nat, pow2_nat, Nat.mod_pow_succ]
    simp
end
theorem colsTo_pre {ib nl : Int} {b : Nat} {gs : GS} {cells : Nat → List Int} {vars : List Int} (hok : Ok ib nl gs) (hv : ∀ j, j < vars.length → 0 ≤ vars.getD j 0 ∧ vars.getD j 0 < gs.length)
    (hc : ∀ k, Cols ib nl b gs k (colsTo cells vars gs k)) {i k : Nat} (h : i ≤ k) : (colsTo cells vars gs i).2 <+: (colsTo cells vars gs k).2 := by
  induction k with
  | zero => obtain rfl : i = 0 := by omega
            exact List.prefix_rfl
  | succ k ih =>
    by_cases e : i = k + 1
    · subst e; exact List.prefix_rfl
    · have hk := hc k
      have hl := hk.pre.length_le
      have hu := build_up vars (colsTo cells vars gs k).2 (cells k) hk.ok (fun j hj => ⟨(hv j hj).1, by have := (hv j hj).2; omega⟩)
      exact (ih (by omega)).trans hu.pre
theorem colsTo_get {cells : Nat → List Int} {vars : List Int} {gs : GS} : ∀ {k i : Nat}, i < k → (∀ k, (colsTo cells vars gs k).1.length = k) → (colsTo cells vars gs k).1.getD i 0 = (buildG (colsTo cells vars gs i).2 (cells i) vars).1
  | 0, i, h, _ => absurd h (Nat.not_lt_zero _)
  | k + 1, i, h, hl => by
    rw [colsTo]
    dsimp only
    rw [getD_snoc, hl k]
    split
    · exact colsTo_get ‹_› hl
    · rw [if_pos (by omega), show i = k by omega]
/-- The value of a column's gate, wherever the list goes on. -/
theorem colsTo_V {ib nl : Int} {b : Nat} {gs hs : GS} {cells : Nat → List Int} {vars : List Int} (hok : Ok ib nl gs) (hv : ∀ j, j < vars.length → 0 ≤ vars.getD j 0 ∧ vars.getD j 0 < gs.length)
    (hc : ∀ k, Cols ib nl b gs k (colsTo cells vars gs k)) (hcl : ∀ i, (cells i).length = 2 ^ vars.length) (hce : ∀ i j, j < (cells i).length → (cells i).getD j 0 = -1 ∨ (cells i).getD j 0 = 0 ∨ (cells i).getD j 0 = 1) {n : Nat} (hp : (colsTo cells vars gs n).2 <+: hs)
    (lat inp : Int) {i : Nat} (hi : i < n) (hne : (cells i).getD (rowV lat inp gs vars) 0 ≠ -1) : V lat inp hs ((colsTo cells vars gs n).1.getD i 0) = (cells i).getD (rowV lat inp gs vars) 0 := by
  have hk := hc i
  have hl := hk.pre.length_le
  have hv2 : ∀ j, j < vars.length → 0 ≤ vars.getD j 0 ∧ vars.getD j 0 < (colsTo cells vars gs i).2.length := fun j hj => ⟨(hv j hj).1, by have := (hv j hj).2; omega⟩
  have hu := build_up vars (colsTo cells vars gs i).2 (cells i) hk.ok hv2
  have hr : rowV lat inp (colsTo cells vars gs i).2 vars = rowV lat inp gs vars := rowV_pre hk.pre vars hv
  rw [colsTo_get hi (fun k => (hc k).len)]
  have hpre : (buildG (colsTo cells vars gs i).2 (cells i) vars).2 <+: hs := (colsTo_pre hok hv hc (show i + 1 ≤ n by omega)).trans hp
  rw [V_pre lat inp hpre hu.lo hu.hi, build_V vars _ (cells i) hk.ok hv2 (hcl i) (hce i) (by rw [hr]; exact hne), hr]

/-! The table. -/
theorem newVars_row (m : Mly) (lat inp : Nat) (hl : lat < 2 ^ laW m) (hi : inp < 2 ^ inW m) : rowV (lat : Int) (inp : Int) (newVars m).2 (newVars m).1 = lat * 2 ^ inW m + inp := by
  have hV : ∀ j : Nat, j < laW m + inW m → V (lat : Int) (inp : Int) (newVars m).2 (j : Int) = if j < laW m then bitZ (lat : Int) (laW m - 1 - j) else bitZ (inp : Int) (inW m - 1 - (j - laW m)) := fun j hj => by
    rw [V_gate (newVars_ok m) (by omega) (by rw [(newVars_len m).2]; omega), Int.toNat_natCast, newVars_gate m hj]
    split
    · show bitZ _ _ = _
      rw [Int.toNat_natCast]
    · show bitZ _ _ = _
      rw [Int.toNat_natCast]
  have e : (newVars m).1 = (List.range (laW m)).map (fun j : Nat => (j : Int)) ++ (List.range (inW m)).map (fun j : Nat => ((laW m + j : Nat) : Int)) := by
    rw [newVars_eq]
    dsimp only
    rw [List.range_add, List.map_append, List.map_map]
    rfl
  rw [e, rowV_app, rowV_bits lat, rowV_bits inp]
  · simp only [List.length_map, List.length_range]
    rw [Nat.mod_eq_of_lt hl, Nat.mod_eq_of_lt hi]
  · intro j hj
    simp only [List.length_map, List.length_range] at hj ⊢
    have e1 : ((List.range (inW m)).map (fun j : Nat => ((laW m + j : Nat) : Int))).getD j 0 = ((laW m + j : Nat) : Int) := by simp [List.getD, hj]
    rw [e1, hV _ (by omega), if_neg (by omega), show laW m + j - laW m = j by omega]
  · intro j hj
    simp only [List.length_map, List.length_range] at hj ⊢
    have e1 : ((List.range (laW m)).map (fun j : Nat => (j : Int))).getD j 0 = (j : Int) := by simp [List.getD, hj]
    rw [e1, hV _ (by omega), if_pos hj]
theorem codeZ_codeZ (st q : Int) : codeZ st (codeZ st q) = q := by
  unfold codeZ
  split
  · split
    · rename_i h1 h2; rw [h1, ← h2]
    · rename_i h1 h2
      rw [if_pos rfl, h1]
  · split
    · rename_i h1 h2
      rw [if_pos rfl, h2]
    · rename_i h1 h2
      first | rfl | (simp; done) | omega
theorem pair_at {m : Mly} (h : Sized m) {q x : Nat} (hq : q < m.out.length) (hx : (x : Int) < m.ins) (hx2 : x < 2 ^ inW m) {lat : Nat} (hlat : (lat : Int) = codeZ m.start q) : pairN m (lat * 2 ^ inW m + x) = ((q : Int), (x : Int)) := by
  have hp : 0 < 2 ^ inW m := Nat.two_pow_pos _
  have e1 : (lat * 2 ^ inW m + x) / 2 ^ inW m = lat := by
    rw [Nat.add_comm, Nat.add_mul_div_right _ _ hp, Nat.div_eq_of_lt hx2, Nat.zero_add]
  have e2 : (lat * 2 ^ inW m + x) % 2 ^ inW m = x := by
    rw [Nat.add_comm, Nat.add_mul_mod_self_right, Nat.mod_eq_of_lt hx2]
  have hr := codeZ_range h.s0 h.s1 (q := (q : Int)) (by omega) (by omega)
  unfold pairN
  rw [e1, e2, if_pos ⟨by rw [hlat]; exact hr.2, hx⟩, hlat, codeZ_codeZ]
theorem cells_at {m : Mly} (val : Int → Int → Int) {r q x : Nat} (hr : r < rowsM m) (hp : pairN m r = ((q : Int), (x : Int))) : (cellsOf val (pairsTo m (rowsM m))).getD r 0 = val q x := by
  have hl : r < (pairsTo m (rowsM m)).length := by rw [pairs_len]; exact hr
  have e := pairs_get m hr
  simp only [List.getD, List.getElem?_eq_getElem hl, Option.getD_some] at e
  simp only [cellsOf, List.getD, List.getElem?_map, List.getElem?_eq_getElem hl, Option.map_some, Option.getD_some]
  rw [e, hp, if_neg (show ¬ ((q : Int) = -1) by omega)]
theorem comp_used (m : Mly) : UsedIn (inW m) (laW m) (latsM m).2 (latsM m).1 (outsM m).1 := by
  have ho := outs_cols m _ (fun i => blk_le _ _) (bitsN m.outs)
  have hl := lats_cols m _ (fun i => blk_le _ _) (fun i => blk_le _ _) (laW m)
  have hp := hl.pre.length_le
  refine ⟨hl.ok, fun j hj => hl.rng j (by have : (latsM m).1.length = laW m := hl.len; omega), fun j hj => ?_⟩
  have := ho.rng j (by have : (outsM m).1.length = bitsN m.outs := ho.len; omega)
  refine ⟨this.1, ?_⟩
  have h2 : (outsM m).2.length ≤ (latsM m).2.length := hp
  have h3 : (outsM m).1.getD j 0 < (outsM m).2.length := this.2
  omega
theorem comp_lens (m : Mly) : (latsM m).1.length = laW m ∧ (outsM m).1.length = bitsN m.outs :=
  ⟨(lats_cols m _ (fun i => blk_le _ _) (fun i => blk_le _ _) (laW m)).len, (outs_cols m _ (fun i => blk_le _ _) (bitsN m.outs)).len⟩
/-- One step of the compiled circuit. -/
theorem comp_step {m : Mly} (h : Sized m) {q x : Nat} (hq : q < m.out.length) (hx : (x : Int) < m.ins) :
    stepC (compileC m) (codeZ m.start q) x = ((m.out.getD q []).getD x 0, codeZ m.start ((m.next.getD q []).getD x 0)) := by
  have hor := h.outr q x hq hx
  have hnr := h.nextr q x hq hx
  have hcz := codeZ_range h.s0 h.s1 (q := (q : Int)) (by omega) (by omega)
  have hcn := codeZ_range h.s0 h.s1 hnr.2.1 hnr.2.2
  have b1 := (bitsN_range m.outs h.o1 (by have := h.o2; omega)).1
  have b2 := (bitsN_range m.out.length (by have := h.n1; omega) (by have := h.n2; omega)).1
  have b3 := (bitsN_range m.ins h.i1 (by have := h.i2; omega)).1
  rw [pow2_nat] at b1 b2 b3
  obtain ⟨lat, hlat⟩ : ∃ lat : Nat, (lat : Int) = codeZ m.start q := ⟨(codeZ m.start q).toNat, by omega⟩
  have hl2 : lat < 2 ^ laW m := by
    have : m.out.length ≤ 2 ^ laW m := by exact Int.ofNat_le.1 b2
    omega
  have hx2 : x < 2 ^ inW m := by
    have : m.ins ≤ ((2 ^ inW m : Nat) : Int) := b3
    omega
  have hrow := newVars_row m lat x hl2 hx2
  have hpair := pair_at h hq hx hx2 hlat
  have hrl : lat * 2 ^ inW m + x < rowsM m := by
    have := rowV_lt (lat := (lat : Int)) (inp := (x : Int)) (gs := (newVars m).2) (newVars m).1
    rw [hrow, (newVars_len m).1] at this
    exact this
  have hlo := comp_lens m
  have hou := fun k => outs_cols m _ (fun i => blk_le _ _) k
  have hla := fun k => lats_cols m _ (fun i => blk_le _ _) (fun i => blk_le _ _) k
  have hpre : (newVars m).2 <+: (outsM m).2 := (hou (bitsN m.outs)).pre
  have hvo : ∀ j, j < (newVars m).1.length → 0 ≤ (newVars m).1.getD j 0 ∧ (newVars m).1.getD j 0 < (outsM m).2.length := fun j hj => ⟨(newVars_range m j hj).1, by have := (newVars_range m j hj).2; have := hpre.length_le; omega⟩
  have hrow2 : rowV (lat : Int) (x : Int) (outsM m).2 (newVars m).1 = lat * 2 ^ inW m + x := by rw [rowV_pre hpre _ (newVars_range m), hrow]
  have VO : ∀ i, i < bitsN m.outs → V (lat : Int) (x : Int) (latsM m).2 ((outsM m).1.getD i 0) = bitZ ((m.out.getD q []).getD x 0) i := fun i hi => by
    have hcell : (outCells m i).getD (rowV (lat : Int) (x : Int) (newVars m).2 (newVars m).1) 0 = bitZ ((m.out.getD q []).getD x 0) i := by
      rw [hrow]
      exact cells_at (outVal m i) hrl hpair
    have h01 := bitZ_01 ((m.out.getD q []).getD x 0) i
    have := colsTo_V (hs := (latsM m).2) (newVars_ok m) (newVars_range m) hou (fun i => by rw [(newVars_len m).1]; simp [outCells, cellsOf, pairs_len, rowsM]) (fun i => cells_ok _ _ fun q x => bitZ_01 _ _) (n := bitsN m.outs) (hla (laW m)).pre (lat : Int) (x : Int) hi (by rw [hcell]; omega)
    rw [hcell] at this
    exact this
  have VL : ∀ i, i < laW m → V (lat : Int) (x : Int) (latsM m).2 ((latsM m).1.getD i 0) = bitZ (codeZ m.start ((m.next.getD q []).getD x 0)) i := fun i hi => by
    have hcell : (latCells m i).getD (rowV (lat : Int) (x : Int) (outsM m).2 (newVars m).1) 0 = bitZ (codeZ m.start ((m.next.getD q []).getD x 0)) i := by
      rw [hrow2]
      exact cells_at (latVal m i) hrl hpair
    have h01 := bitZ_01 (codeZ m.start ((m.next.getD q []).getD x 0)) i
    have := colsTo_V (gs := (outsM m).2) (hs := (latsM m).2) (hou (bitsN m.outs)).ok hvo hla (fun i => by rw [(newVars_len m).1]; simp [latCells, cellsOf, pairs_len, rowsM]) (fun i => cells_ok _ _ fun q x => bitZ_01 _ _) (n := laW m) List.prefix_rfl (lat : Int) (x : Int) hi (by rw [hcell]; omega)
    rw [hcell] at this
    exact this
  unfold compileC
  rw [used_step (comp_used m), ← hlat, hlo.1, hlo.2]
  obtain ⟨y, hy⟩ : ∃ y : Nat, (y : Int) = (m.out.getD q []).getD x 0 := ⟨((m.out.getD q []).getD x 0).toNat, by omega⟩
  obtain ⟨z, hz⟩ : ∃ z : Nat, (z : Int) = codeZ m.start ((m.next.getD q []).getD x 0) := ⟨(codeZ m.start ((m.next.getD q []).getD x 0)).toNat, by omega⟩
  rw [← hy] at VO hor ⊢
  rw [← hz] at VL hcn ⊢
  rw [sum_bits y _ VO, sum_bits z _ VL]
  have hy2 : y < 2 ^ bitsN m.outs := by have := hor.2.2; omega
  have hz2 : z < 2 ^ laW m := by
    have : m.out.length ≤ 2 ^ laW m := by exact Int.ofNat_le.1 b2
    omega
  rw [Nat.mod_eq_of_lt hy2, Nat.mod_eq_of_lt hz2]
end Go.Proofs.Ytfabdpnjjondaaa
