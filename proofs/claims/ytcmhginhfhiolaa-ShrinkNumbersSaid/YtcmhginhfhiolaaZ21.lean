/-
  Walk of differ.
  Dividing states into blocks until no block can divide another; plain.
  The partition in memory: what appends to its parts and stores into them leave.
-/
import Derived.Test.YtcmhginhfhiolaaZ20
import Derived.Test.YtcmhginhfhiolaaZ01
import Derived.Test.YtcmhginhfhiolaaZ09
import Derived.Test.YtcmhginhfhiolaaZ11
import Derived.Test.YtcmhginhfhiolaaZ04
set_option linter.unusedVariables false
set_option linter.unusedSimpArgs false
namespace Go.Proofs.Ytcmhginhfhiolaa
open Go.RowKit
attribute [local go_sem] cell_alloc_old

def diffAt (L : Mac) (p q x : Nat) : Bool := decide (0 ≤ mvT L p x) && decide (0 ≤ mvT L q x) && (mvO L p x != mvO L q x)
def diffB (L : Mac) (p q : Nat) : Bool := (List.range L.ins).any (diffAt L p q)
theorem diff_clash {L : Mac} {p q : Nat} (hp : p < L.size) (hq : q < L.size) (h : diffB L p q = true) : ∀ G, Good L G → ¬ G p q := fun G hG hpq => by
  obtain ⟨x, hx, hd⟩ := List.any_eq_true.1 h
  rw [List.mem_range] at hx
  unfold diffAt at hd
  simp only [Bool.and_eq_true, decide_eq_true_eq, bne_iff_ne] at hd
  obtain ⟨⟨h1, h2⟩, h3⟩ := hd
  rcases m1 : L.mv p x with _ | ⟨o, t⟩
  · rw [(mvT_no m1).2] at h1; omega
  · rcases m2 : L.mv q x with _ | ⟨o', t'⟩
    · rw [(mvT_no m2).2] at h2; omega
    · rw [(mvT_yes m1).1, (mvT_yes m2).1] at h3
      exact h3 (hG.cong p q x o t o' t' hp hq hpq hx m1 m2).1
theorem diffB_no {L : Mac} {p q : Nat} (h : ∀ x, x < L.ins → diffAt L p q x = false) : diffB L p q = false := by
  unfold diffB
  rw [List.any_eq_false]
  intro x hx
  rw [List.mem_range] at hx
  simp [h x hx]
theorem diffB_yes {L : Mac} {p q x : Nat} (hx : x < L.ins) (h : diffAt L p q x = true) : diffB L p q = true := List.any_eq_true.2 ⟨x, List.mem_range.2 hx, h⟩

set_option maxRecDepth 100000 in
set_option maxHeartbeats 4000000 in
theorem differ_any {D E : Dom} (L : Mac) (hs : L.size ≤ 3000) (hi : L.ins ≤ 64) (tb p q : Nat) (Ao An : Option Addr) (co cn : Nat) (w : World) (h0 : w.cell? ⟨tb, 0, none⟩ = some (.slice Ao L.size co)) (h1 : w.cell? ⟨tb, 1, none⟩ = some (.slice An L.size cn))
    (ho : RdII w D Ao co (outsL L)) (hn : RdII w E An cn (nextsL L)) (hp : p < L.size) (hq : q < L.size) :
    Calls Try.prog 67 #[.pointer (some ⟨tb, 0, none⟩), .int .i64 (p : Int), .int .i64 (q : Int)] w fun e w' => e = .returned (.bool (diffB L p q)) ∧ ∃ j, w' = w.drewN j := by
  obtain ⟨bo, oo, Ao1, co1, ro1, hAo, _, _, HRo1, hro1, hco1⟩ := ho.get (show p < (outsL L).length by rw [outsL_len]; exact hp)
  obtain ⟨bo2, oo2, Ao2, co2, ro2, hAo2, _, _, HRo2, hro2, hco2⟩ := ho.get (show q < (outsL L).length by rw [outsL_len]; exact hq)
  subst hAo
  injection hAo2 with hAo2
  injection hAo2 with hbo hoo
  subst hbo
  subst hoo
  obtain ⟨bn, on, An1, cn1, rn1, hAn, _, _, HRn1, hrn1, hcn1⟩ := hn.get (show p < (nextsL L).length by rw [nextsL_len]; exact hp)
  obtain ⟨bn2, on2, An2, cn2, rn2, hAn2, _, _, HRn2, hrn2, hcn2⟩ := hn.get (show q < (nextsL L).length by rw [nextsL_len]; exact hq)
  subst hAn
  injection hAn2 with hAn2
  injection hAn2 with hbn hon
  subst hbn
  subst hon
  have eo1 := HRo1.out
  have eo2 := HRo2.out
  have en1 := HRn1.out
  have en2 := HRn2.out
  rw [outsL_row L hp] at eo1
  rw [outsL_row L hq] at eo2
  rw [nextsL_row L hp] at en1
  rw [nextsL_row L hq] at en2
  have a1 : ro1.length ≤ L.ins ∧ L.ins ≤ ro1.length := by rw [← eo1, rowf_len]; exact ⟨Nat.le_refl _, Nat.le_refl _⟩
  have a2 : ro2.length ≤ L.ins ∧ L.ins ≤ ro2.length := by rw [← eo2, rowf_len]; exact ⟨Nat.le_refl _, Nat.le_refl _⟩
  have a3 : rn1.length ≤ L.ins ∧ L.ins ≤ rn1.length := by rw [← en1, rowf_len]; exact ⟨Nat.le_refl _, Nat.le_refl _⟩
  have a4 : rn2.length ≤ L.ins ∧ L.ins ≤ rn2.length := by rw [← en2, rowf_len]; exact ⟨Nat.le_refl _, Nat.le_refl _⟩
  have hpi : (p : Int) < L.size := by omega
  have hqi : (q : Int) < L.size := by omega
  have HO1 := hid hro1
  have HO2 := hid hro2
  have HN1 := hid hrn1
  have HN2 := hid hrn2
  have EO1 := hid eo1
  have EO2 := hid eo2
  have EN1 := hid en1
  have EN2 := hid en2
  have l1 := hro1.len.1
  have l2 := hro2.len.1
  have l3 := hrn1.len.1
  have l4 := hrn2.len.1
  clear ho hn hro1 hro2 hrn1 hrn2 eo1 eo2 en1 en2
  go_enter Try.func67, Try.ntmps67
  go_wp2_with fail
  go_loopw [17] (fun t wr => ∃ x : Nat, x ≤ L.ins ∧ t = .int .i64 (x : Int) ∧ SoFar x (fun y => !diffAt L p q y) ∧ Drawn w wr) (fun t _ => L.ins - (intOf t).toNat)
  case atStart => exact ⟨0, Nat.zero_le _, rfl, SoFar.zero _, Drawn.refl w⟩
  case round =>
    obtain ⟨x, hx, rfl, hso, hd⟩ := hrel
    have HSO := hid hso
    obtain ⟨jd, rfl⟩ := hd
    clear hso
    by_cases hxl : x < L.ins
    · have hxi : (x : Int) < rn1.length := by omega
      have hxi2 : (x : Int) < rn2.length := by omega
      have hxi3 : (x : Int) < ro1.length := by omega
      have hxi4 : (x : Int) < ro2.length := by omega
      obtain ⟨b5, o5, v1, rfl, _, _, HV1, hd1⟩ := HN1.out.get (show x < rn1.length by omega)
      obtain ⟨b6, o6, v2, rfl, _, _, HV2, hd2⟩ := HN2.out.get (show x < rn2.length by omega)
      obtain ⟨b7, o7, v3, rfl, _, _, HV3, hd3⟩ := HO1.out.get (show x < ro1.length by omega)
      obtain ⟨b8, o8, v4, rfl, _, _, HV4, hd4⟩ := HO2.out.get (show x < ro2.length by omega)
      have w1 : mvT L p x = v1 := by rw [← HV1.out, ← EN1.out, rowf_get _ hxl]
      have w2 : mvT L q x = v2 := by rw [← HV2.out, ← EN2.out, rowf_get _ hxl]
      have w3 : mvO L p x = v3 := by rw [← HV3.out, ← EO1.out, rowf_get _ hxl]
      have w4 : mvO L q x = v4 := by rw [← HV4.out, ← EO2.out, rowf_get _ hxl]
      have hdf : diffAt L p q x = (decide (0 ≤ v1) && decide (0 ≤ v2) && (v3 != v4)) := by unfold diffAt; rw [w1, w2, w3, w4]
      have HDF := hid hdf
      clear w1 w2 w3 w4 hdf
      by_cases g1 : 0 ≤ v1
      · have g1' : decide (0 ≤ v1) = true := decide_eq_true g1
        by_cases g2 : 0 ≤ v2
        · have g2' : decide (0 ≤ v2) = true := decide_eq_true g2
          by_cases g3 : v3 = v4
          · have g3' : (v3 != v4) = false := by simp [g3]
            have HNO := hid (show diffAt L p q x = false by rw [HDF.out, g3', Bool.and_false])
            clear g3
            go_wp2_with fail
            go_quiet (fail)
            go_wp2_with fail
            go_roundw
            case rel => exact ⟨x + 1, by omega, by go_num, HSO.out.succ (by rw [HNO.out]; rfl), Drawn.n w _⟩
            case measure => simp [intOf]; omega
          · have g3' : (v3 != v4) = true := by simp [g3]
            have HYES := hid (diffB_yes hxl (show diffAt L p q x = true by rw [HDF.out, g1', g2', g3']; rfl))
            clear g3
            go_wp2_with fail
            go_quiet (fail)
            go_wp2_with fail
            go_ret
            exact ⟨ret_bool HYES.out.symm, jd + nq, World.drewN_drewN w jd nq⟩
        · have g2' : decide (0 ≤ v2) = false := decide_eq_false g2
          have HNO := hid (show diffAt L p q x = false by rw [HDF.out, g2', Bool.and_false, Bool.false_and])
          go_wp2_with fail
          go_quiet (fail)
          go_wp2_with fail
          go_roundw
          case rel => exact ⟨x + 1, by omega, by go_num, HSO.out.succ (by rw [HNO.out]; rfl), Drawn.n w _⟩
          case measure => simp [intOf]; omega
      · have g1' : decide (0 ≤ v1) = false := decide_eq_false g1
        have HNO := hid (show diffAt L p q x = false by rw [HDF.out, g1', Bool.false_and, Bool.false_and])
        go_wp2_with fail
        go_quiet (fail)
        go_wp2_with fail
        go_roundw
        case rel => exact ⟨x + 1, by omega, by go_num, HSO.out.succ (by rw [HNO.out]; rfl), Drawn.n w _⟩
        case measure => simp [intOf]; omega
    · have HF := hid (diffB_no (L := L) (p := p) (q := q) (fun y hy => by simpa using HSO.out y (by omega)))
      go_wp2_with fail
      go_ret
      exact ⟨ret_bool HF.out.symm, _, rfl⟩
end Go.Proofs.Ytcmhginhfhiolaa
set_option linter.unusedVariables false
set_option linter.unusedSimpArgs false
namespace Go.Proofs.Ytcmhginhfhiolaa

def dl (M : Mac) (q x : Nat) : Nat := ((M.mv q x).map fun z => z.2).getD 0
/-- A division into nb blocks: blocks are not empty; states with the same outputs for ever are in one block; states of a block put out the same. -/
structure Part (M : Mac) (nb : Nat) (blk : Nat → Nat) : Prop where
  rng : ∀ q, q < M.size → blk q < nb
  full : ∀ b, b < nb → ∃ q, q < M.size ∧ blk q = b
  apart : ∀ p q, p < M.size → q < M.size → blk p ≠ blk q → ¬ Sim M M p q
  outs : ∀ p q x, p < M.size → q < M.size → blk p = blk q → x < M.ins → mvO M p x = mvO M q x
/-- Which blocks wait; T, the states by which blocks are divided, is done with the inputs below k. -/
structure Hop (M : Mac) (blk : Nat → Nat) (wt : Nat → Prop) (T : Nat → Prop) (k : Nat) : Prop where
  h : ∀ p q x, p < M.size → q < M.size → blk p = blk q → x < M.ins → blk (dl M p x) = blk (dl M q x) ∨ wt (blk (dl M p x)) ∨ wt (blk (dl M q x)) ∨ (k ≤ x ∧ (T (dl M p x) ↔ ¬ T (dl M q x)))
  t : ∀ p q, p < M.size → q < M.size → T p → ¬ T q → ¬ Sim M M p q
section
variable {M : Mac} {nb b k : Nat} {blk : Nat → Nat} {wt T : Nat → Prop}
theorem dl_mv (ht : Total M) {q x : Nat} (hq : q < M.size) (hx : x < M.ins) : M.mv q x = some (mvO M q x, dl M q x) := by
  obtain ⟨o, t, e⟩ := ht q x hq hx
  rw [(mvT_yes e).1]
  unfold dl
  rw [e]; rfl
theorem dl_lt (hM : M.Ok) (ht : Total M) {q x : Nat} (hq : q < M.size) (hx : x < M.ins) : dl M q x < M.size := hM.tgt q x _ _ hq hx (dl_mv ht hq hx)
theorem sim_dl (ht : Total M) {p q x : Nat} (hp : p < M.size) (hq : q < M.size) (hx : x < M.ins) (h : Sim M M p q) : mvO M p x = mvO M q x ∧ Sim M M (dl M p x) (dl M q x) := sim_step h hx (dl_mv ht hp hx) (dl_mv ht hq hx)
/-- The states Lv of block b leave it; they are the new block nb, which waits. -/
noncomputable def cutB (blk : Nat → Nat) (b nb : Nat) (Lv : Nat → Prop) [DecidablePred Lv] : Nat → Nat := fun q => if blk q = b ∧ Lv q then nb else blk q
theorem cutB_eq {Lv : Nat → Prop} [DecidablePred Lv] (hP : Part M nb blk) {p q : Nat} (hp : p < M.size) (hq : q < M.size) (h : cutB blk b nb Lv p = cutB blk b nb Lv q) : blk p = blk q ∧ (blk p = b → (Lv p ↔ Lv q)) := by
  have h1 := hP.rng p hp
  have h2 := hP.rng q hq
  unfold cutB at h
  split at h
  · rename_i hc1
    split at h
    · rename_i hc2
      exact ⟨hc1.1.trans hc2.1.symm, fun _ => ⟨fun _ => hc2.2, fun _ => hc1.2⟩⟩
    · omega
  · rename_i hc1
    split at h
    · omega
    · rename_i hc2
      refine ⟨h, fun hb => ⟨fun hl => absurd ⟨hb, hl⟩ hc1, fun hl => absurd ⟨h ▸ hb, hl⟩ hc2⟩⟩
theorem Part.cut {Lv : Nat → Prop} [DecidablePred Lv] (hP : Part M nb blk) (hb : b < nb) (h1 : ∃ q, q < M.size ∧ blk q = b ∧ Lv q) (h2 : ∃ q, q < M.size ∧ blk q = b ∧ ¬ Lv q)
    (hs : ∀ p q, p < M.size → q < M.size → blk p = b → blk q = b → Lv p → ¬ Lv q → ¬ Sim M M p q) : Part M (nb + 1) (cutB blk b nb Lv) := by
  refine ⟨fun q hq => ?_, fun c hc => ?_, fun p q hp hq hne => ?_, fun p q x hp hq he hx => hP.outs p q x hp hq (cutB_eq hP hp hq he).1 hx⟩
  · have := hP.rng q hq
    unfold cutB
    split <;> omega
  · by_cases hcn : c = nb
    · obtain ⟨q, hq, hqb, hl⟩ := h1
      exact ⟨q, hq, by unfold cutB; rw [if_pos ⟨hqb, hl⟩, hcn]⟩
    · by_cases hcb : c = b
      · obtain ⟨q, hq, hqb, hl⟩ := h2
        exact ⟨q, hq, by unfold cutB; rw [if_neg (fun h => hl h.2), hcb]; exact hqb⟩
      · obtain ⟨q, hq, hqc⟩ := hP.full c (by omega)
        exact ⟨q, hq, by unfold cutB; rw [if_neg (fun h => hcb (hqc.symm.trans h.1))]; exact hqc⟩
  · by_cases he : blk p = blk q
    · by_cases hpb : blk p = b
      · have hqb : blk q = b := he ▸ hpb
        by_cases l1 : Lv p <;> by_cases l2 : Lv q
        · exact absurd (by unfold cutB; rw [if_pos ⟨hpb, l1⟩, if_pos ⟨hqb, l2⟩]) hne
        · exact hs p q hp hq hpb hqb l1 l2
        · exact fun h => hs q p hq hp hqb hpb l2 l1 (sim_symm rfl h)
        · exact absurd (by unfold cutB; rw [if_neg (fun h => l1 h.2), if_neg (fun h => l2 h.2)]; exact he) hne
      · exact absurd (by unfold cutB; rw [if_neg (fun h => hpb h.1), if_neg (fun h => hpb (he.trans h.1))]; exact he) hne
    · exact hP.apart p q hp hq he
theorem Hop.cut {Lv : Nat → Prop} [DecidablePred Lv] {wt' : Nat → Prop} (hH : Hop M blk wt T k) (hP : Part M nb blk) (hM : M.Ok) (htot : Total M) (hw : ∀ c, c < nb → wt c → wt' c) (hn : wt' nb) (hbw : wt b → wt' b) : Hop M (cutB blk b nb Lv) wt' T k := by
  refine ⟨fun p q x hp hq he hx => ?_, hH.t⟩
  have hdp := dl_lt hM htot hp hx
  have hdq := dl_lt hM htot hq hx
  have key : ∀ s, s < M.size → wt (blk s) → wt' (cutB blk b nb Lv s) := fun s hs hws => by
    unfold cutB
    split
    · exact hn
    · exact hw _ (hP.rng s hs) hws
  rcases hH.h p q x hp hq (cutB_eq hP hp hq he).1 hx with h | h | h | h
  · by_cases hs : cutB blk b nb Lv (dl M p x) = cutB blk b nb Lv (dl M q x)
    · exact .inl hs
    · unfold cutB at hs ⊢
      by_cases h1 : blk (dl M p x) = b ∧ Lv (dl M p x)
      · right; left; rw [if_pos h1]; exact hn
      · by_cases h2 : blk (dl M q x) = b ∧ Lv (dl M q x)
        · right; right; left; rw [if_pos h2]; exact hn
        · rw [if_neg h1, if_neg h2] at hs; exact absurd h hs
  · exact .inr (.inl (key _ hdp h))
  · exact .inr (.inr (.inl (key _ hdq h)))
  · exact .inr (.inr (.inr h))
/-- All blocks are divided by the targets in T of input k. -/
theorem Hop.next (hH : Hop M blk wt T k) (hu : ∀ p q, p < M.size → q < M.size → blk p = blk q → (T (dl M p k) ↔ T (dl M q k))) : Hop M blk wt T (k + 1) := by
  refine ⟨fun p q x hp hq he hx => ?_, hH.t⟩
  rcases hH.h p q x hp hq he hx with h | h | h | ⟨h1, h2⟩
  · exact .inl h
  · exact .inr (.inl h)
  · exact .inr (.inr (.inl h))
  · by_cases hk : x = k
    · subst hk
      have := hu p q hp hq he
      by_cases ht : T (dl M p x)
      · exact absurd (this.1 ht) (h2.1 ht)
      · exact absurd (this.2 (Classical.byContradiction fun h => ht (h2.2 h))) ht
    · exact .inr (.inr (.inr ⟨by omega, h2⟩))
/-- Block b no longer waits: it divides the others now. -/
theorem Hop.pop {wt' : Nat → Prop} (hH : Hop M blk wt T M.ins) (hP : Part M nb blk) (hw : ∀ c, c ≠ b → wt c → wt' c) : Hop M blk wt' (fun q => blk q = b) 0 := by
  refine ⟨fun p q x hp hq he hx => ?_, fun p q hp hq h1 h2 => hP.apart p q hp hq (by rw [h1]; exact fun e => h2 e.symm)⟩
  by_cases hs : blk (dl M p x) = blk (dl M q x)
  · exact .inl hs
  · rcases hH.h p q x hp hq he hx with h | h | h | ⟨h, _⟩
    · exact absurd h hs
    · by_cases hb : blk (dl M p x) = b
      · exact .inr (.inr (.inr ⟨Nat.zero_le _, ⟨fun _ h2 => hs (hb.trans h2.symm), fun _ => hb⟩⟩))
      · exact .inr (.inl (hw _ hb h))
    · by_cases hb : blk (dl M q x) = b
      · exact .inr (.inr (.inr ⟨Nat.zero_le _, ⟨fun h1 _ => hs (h1.trans hb.symm), fun h1 => absurd hb h1⟩⟩))
      · exact .inr (.inr (.inl (hw _ hb h)))
    · omega
/-- Nothing waits: the blocks are the classes of states with the same outputs. -/
theorem Hop.done (hH : Hop M blk wt T M.ins) (hP : Part M nb blk) (hM : M.Ok) (htot : Total M) (hw : ∀ c, ¬ wt c) {p q : Nat} (hp : p < M.size) (hq : q < M.size) : blk p = blk q ↔ Sim M M p q := by
  constructor
  · intro he
    have hg : Good M (fun i j => blk i = blk j) := ⟨fun _ _ => rfl, fun _ _ h => h.symm, fun _ _ _ h k => h.trans k, fun i j x o t o' t' hi hj hij hx h1 h2 => by
      have e1 := dl_mv htot hi hx
      have e2 := dl_mv htot hj hx
      rw [h1] at e1
      rw [h2] at e2
      injection e1 with e1
      injection e1 with a1 a2
      injection e2 with e2
      injection e2 with b1 b2
      rw [a1, a2, b1, b2]
      refine ⟨hP.outs i j x hi hj hij hx, ?_⟩
      rcases hH.h i j x hi hj hij hx with h | h | h | ⟨h, _⟩
      · exact h
      · exact absurd h (hw _)
      · exact absurd h (hw _)
      · omega⟩
    exact good_sim hM htot hg hp hq he
  · exact fun hs => Classical.byContradiction fun hne => hP.apart p q hp hq hne hs
/-- At the start all blocks wait. -/
theorem Hop.start (hall : ∀ q, q < M.size → wt (blk q)) (hM : M.Ok) (htot : Total M) : Hop M blk wt (fun _ => False) M.ins :=
  ⟨fun p q x hp hq _ hx => .inr (.inl (hall _ (dl_lt hM htot hp hx))), fun _ _ _ _ h => absurd h (fun x => x)⟩
/-- What leads into T by input k can be cut off. -/
theorem Hop.sep (hH : Hop M blk wt T k) (hM : M.Ok) (htot : Total M) (hk : k < M.ins) {p q : Nat} (hp : p < M.size) (hq : q < M.size) (h1 : T (dl M p k)) (h2 : ¬ T (dl M q k)) : ¬ Sim M M p q := fun hs =>
  hH.t _ _ (dl_lt hM htot hp hk) (dl_lt hM htot hq hk) h1 h2 (sim_dl htot hp hq hk hs).2
theorem Part.le (hP : Part M nb blk) : nb ≤ M.size := by
  have h : ∀ b, ∃ q, b < nb → q < M.size ∧ blk q = b := fun b => by
    by_cases hb : b < nb
    · obtain ⟨q, h1, h2⟩ := hP.full b hb
      exact ⟨q, fun _ => ⟨h1, h2⟩⟩
    · exact ⟨0, fun h => absurd h hb⟩
  have hg : ∀ b, b < nb → (h b).choose < M.size ∧ blk (h b).choose = b := fun b hb => (h b).choose_spec hb
  have hnd : ((List.range nb).map fun b => (h b).choose).Nodup := by
    unfold List.Nodup
    rw [List.pairwise_map]
    refine List.Pairwise.imp_of_mem ?_ List.nodup_range
    intro a b ha hb hne e
    rw [List.mem_range] at ha hb
    exact hne (by rw [← (hg a ha).2, ← (hg b hb).2, e])
  have := nodup_lt hnd (n := M.size) fun q hq => by
    obtain ⟨b, hb, rfl⟩ := List.mem_map.1 hq
    rw [List.mem_range] at hb
    exact (hg b hb).1
  simpa using this
end
end Go.Proofs.Ytcmhginhfhiolaa
set_option linter.unusedVariables false
set_option linter.unusedSimpArgs false
namespace Go.Proofs.Ytcmhginhfhiolaa
open Go.RowKit
attribute [local go_sem] cell_alloc_old

def blkOf (A : Option Addr) : Option Nat := (Value.slice A 0 0).ownBlock
theorem own_slice (A : Option Addr) (n c : Nat) : (Value.slice A n c).ownBlock = blkOf A := by
  unfold blkOf; cases A <;> rfl
/-- Where the parts lie: block, members, before, waiting, waits. -/
structure PTA where
  ab : Option Addr
  cb : Nat
  am : Option Addr
  cm : Nat
  af : Option Addr
  nf : Nat
  cf : Nat
  aw : Option Addr
  cw : Nat
  ak : Option Addr
  ct : Nat
def ptCells (Q : PTA) (n nb nw nk : Nat) : Array Value := #[.slice Q.ab n Q.cb, .slice Q.am nb Q.cm, .slice Q.af Q.nf Q.cf, .slice Q.aw nw Q.cw, .slice Q.ak nk Q.ct]
/-- The rows of ints that are written in place; all that is written. -/
def PTA.hot (Q : PTA) : Dom := fun k => some k = blkOf Q.ab ∨ some k = blkOf Q.aw
def PTA.V (Q : PTA) (pb : Nat) : Dom := fun k => k = pb ∨ some k = blkOf Q.ab ∨ some k = blkOf Q.am ∨ some k = blkOf Q.aw ∨ some k = blkOf Q.ak
structure PtB (B : Nat) (w : World) (pb : Nat) (Q : PTA) (bl : List Int) (vm : List Value) (wq : List Int) (wts : List Bool) : Prop where
  box : w.heap[pb]? = some (.cells (ptCells Q bl.length vm.length wq.length wts.length) 65 (0, 0))
  bo : w.ownsRow B 3 1 (.slice Q.ab bl.length Q.cb) bl.length (bl.map (.int .i64))
  mo : w.ownsRow B 34 1 (.slice Q.am vm.length Q.cm) vm.length vm
  wo : w.ownsRow B 3 1 (.slice Q.aw wq.length Q.cw) wq.length (wq.map (.int .i64))
  two : w.ownsRow B 4 1 (.slice Q.ak wts.length Q.ct) wts.length (wts.map .bool)
  dis : ∀ k, some k = blkOf Q.ab → some k ≠ blkOf Q.aw
/-- A step of the partition's. -/
structure PtS (pb : Nat) (Q Q' : PTA) (w w' : World) : Prop where
  chg : Chg (Q.V pb) w w'
  v : ∀ k, k < w.heap.size → Q'.V pb k → Q.V pb k
  hot : ∀ k, k < w.heap.size → Q'.hot k → Q.hot k
  fr : Q'.af = Q.af ∧ Q'.nf = Q.nf ∧ Q'.cf = Q.cf
theorem PtS.refl (pb : Nat) (Q : PTA) (w : World) : PtS pb Q Q w w := ⟨Chg.refl _ _, fun _ _ h => h, fun _ _ h => h, rfl, rfl, rfl⟩
theorem PtS.of_below (pb : Nat) (Q : PTA) {w w' : World} (h : Below w.heap.size w w') : PtS pb Q Q w w' := ⟨Chg.of_new h, fun _ _ h => h, fun _ _ h => h, rfl, rfl, rfl⟩
theorem PtS.trans {pb : Nat} {Q Q' Q'' : PTA} {w w' w'' : World} (h : PtS pb Q Q' w w') (k : PtS pb Q' Q'' w' w'') : PtS pb Q Q'' w w'' :=
  ⟨h.chg.trans' k.chg (fun b hb hv => h.v b hb hv), fun b hb hv => h.v b hb (k.v b (Nat.lt_of_lt_of_le hb h.chg.size) hv), fun b hb hv => h.hot b hb (k.hot b (Nat.lt_of_lt_of_le hb h.chg.size) hv), k.fr.1.trans h.fr.1, k.fr.2.1.trans h.fr.2.1, k.fr.2.2.trans h.fr.2.2⟩
section
variable {B : Nat} {w w' w5 : World} {pb : Nat} {Q : PTA} {bl : List Int} {vm : List Value} {wq : List Int} {wts : List Bool}
theorem PtB.pb_ne (h : PtB B w pb Q bl vm wq wts) {base n size : Nat} {e : TypeId} {v : Value} {xs : List Value} (ho : w.ownsRow base e size v n xs) (he : e ≠ 65) : v.ownBlock ≠ some pb := own_ne ho h.box he
theorem PtB.nb (h : PtB B w pb Q bl vm wq wts) : blkOf Q.ab ≠ some pb := by have := h.pb_ne h.bo (by decide); rwa [own_slice] at this
theorem PtB.nm (h : PtB B w pb Q bl vm wq wts) : blkOf Q.am ≠ some pb := by have := h.pb_ne h.mo (by decide); rwa [own_slice] at this
theorem PtB.nw (h : PtB B w pb Q bl vm wq wts) : blkOf Q.aw ≠ some pb := by have := h.pb_ne h.wo (by decide); rwa [own_slice] at this
theorem PtB.nk (h : PtB B w pb Q bl vm wq wts) : blkOf Q.ak ≠ some pb := by have := h.pb_ne h.two (by decide); rwa [own_slice] at this
theorem PtB.bm (h : PtB B w pb Q bl vm wq wts) {k : Nat} (e : some k = blkOf Q.ab) : some k ≠ blkOf Q.am := by
  have := own_apart h.bo h.mo (by decide) (b := k) (by rw [own_slice]; exact e); rwa [own_slice] at this
theorem PtB.bk (h : PtB B w pb Q bl vm wq wts) {k : Nat} (e : some k = blkOf Q.ab) : some k ≠ blkOf Q.ak := by
  have := own_apart h.bo h.two (by decide) (b := k) (by rw [own_slice]; exact e); rwa [own_slice] at this
theorem PtB.mw (h : PtB B w pb Q bl vm wq wts) {k : Nat} (e : some k = blkOf Q.am) : some k ≠ blkOf Q.aw := by
  have := own_apart h.mo h.wo (by decide) (b := k) (by rw [own_slice]; exact e); rwa [own_slice] at this
theorem PtB.mwk (h : PtB B w pb Q bl vm wq wts) {k : Nat} (e : some k = blkOf Q.am) : some k ≠ blkOf Q.ak := by
  have := own_apart h.mo h.two (by decide) (b := k) (by rw [own_slice]; exact e); rwa [own_slice] at this
theorem PtB.wk (h : PtB B w pb Q bl vm wq wts) {k : Nat} (e : some k = blkOf Q.aw) : some k ≠ blkOf Q.ak := by
  have := own_apart h.wo h.two (by decide) (b := k) (by rw [own_slice]; exact e); rwa [own_slice] at this
theorem PtB.vlt (h : PtB B w pb Q bl vm wq wts) {k : Nat} (hv : Q.V pb k) : k < w.heap.size := by
  rcases hv with rfl | e | e | e | e
  · exact lt_of_block h.box
  · exact (h.bo.lt k (by rw [own_slice]; exact e.symm)).2
  · exact (h.mo.lt k (by rw [own_slice]; exact e.symm)).2
  · exact (h.wo.lt k (by rw [own_slice]; exact e.symm)).2
  · exact (h.two.lt k (by rw [own_slice]; exact e.symm)).2
/-- Rows of ints that are not written are none of its blocks. -/
theorem PtB.ibx (h : PtB B w pb Q bl vm wq wts) {B' k : Nat} (hi : IBX Q.hot w B' k) : ¬ Q.V pb k := by
  obtain ⟨_, hh, cs, fr, hk⟩ := hi
  rintro (rfl | e | e | e | e)
  · have := h.box
    rw [hk] at this
    injection this with this
    injection this with _ this
    exact absurd this (by decide)
  · exact hh (.inl e)
  · exact own_ne h.mo hk (by decide) (by rw [own_slice]; exact e.symm)
  · exact hh (.inr e)
  · exact own_ne h.two hk (by decide) (by rw [own_slice]; exact e.symm)
theorem PtB.rows {X : PTA} {B' : Nat} {mem : List (List Int)} {vs : List Value} (h : PtB B w pb Q bl vm wq wts) (hr : RowsX Q.hot w B' mem vs) (hs : PtS pb Q X w w') : RowsX X.hot w' B' mem vs :=
  hr.keep (hs.chg.keeps fun b _ hd => h.ibx hd) hs.hot
theorem PtB.row {X : PTA} {B' : Nat} {A : Option Addr} {c : Nat} {zs : List Int} (h : PtB B w pb Q bl vm wq wts) (hr : RdI w (IBX Q.hot w B') A c zs) (hs : PtS pb Q X w w') : RdI w' (IBX X.hot w' B') A c zs := by
  have hk : Keeps (IBX Q.hot w B') w w' := hs.chg.keeps fun b _ hd => h.ibx hd
  refine (hr.keep hk).mono fun b hb _ => ?_
  obtain ⟨hB, hx, cs, fr, hh⟩ := hb
  exact ⟨hB, fun hx' => hx (hs.hot b (lt_of_block hh) hx'), cs, fr, (hk.block b ⟨hB, hx, cs, fr, hh⟩ (lt_of_block hh)).trans hh⟩
theorem PtB.keep (h : PtB B w pb Q bl vm wq wts) (hk : Keeps (Q.V pb) w w') : PtB B w' pb Q bl vm wq wts :=
  ⟨(hk.block pb (.inl rfl) (lt_of_block h.box)).trans h.box,
   own_agree h.bo fun k e => by rw [own_slice] at e; exact hk.block k (.inr (.inl e)) (h.vlt (.inr (.inl e))),
   own_agree h.mo fun k e => by rw [own_slice] at e; exact hk.block k (.inr (.inr (.inl e))) (h.vlt (.inr (.inr (.inl e)))),
   own_agree h.wo fun k e => by rw [own_slice] at e; exact hk.block k (.inr (.inr (.inr (.inl e)))) (h.vlt (.inr (.inr (.inr (.inl e))))),
   own_agree h.two fun k e => by rw [own_slice] at e; exact hk.block k (.inr (.inr (.inr (.inr e)))) (h.vlt (.inr (.inr (.inr (.inr e))))), h.dis⟩
theorem PtB.later (h : PtB B w pb Q bl vm wq wts) (hb : Below w.heap.size w w') : PtB B w' pb Q bl vm wq wts := h.keep ⟨hb.size, fun b _ hl => hb.block b hl⟩
theorem PtB.cells (h : PtB B w pb Q bl vm wq wts) : w.cell? ⟨pb, 0, none⟩ = some (.slice Q.ab bl.length Q.cb) ∧ w.cell? ⟨pb, 1, none⟩ = some (.slice Q.am vm.length Q.cm) ∧ w.cell? ⟨pb, 2, none⟩ = some (.slice Q.af Q.nf Q.cf) ∧
    w.cell? ⟨pb, 3, none⟩ = some (.slice Q.aw wq.length Q.cw) ∧ w.cell? ⟨pb, 4, none⟩ = some (.slice Q.ak wts.length Q.ct) ∧ pb < w.heap.size ∧ w.frozen? ⟨pb, 1, none⟩ = false ∧ w.frozen? ⟨pb, 3, none⟩ = false ∧ w.frozen? ⟨pb, 4, none⟩ = false :=
  ⟨block_cell h.box rfl, block_cell h.box rfl, block_cell h.box rfl, block_cell h.box rfl, block_cell h.box rfl, lt_of_block h.box, block_free h.box, block_free h.box, block_free h.box⟩
/-- A row grows, and a cell of the struct is set. -/
theorem PtB.grow (h : PtB B w pb Q bl vm wq wts) {A : Option Addr} (hA : blkOf A ≠ some pb) (hg : w.grownBy w5 (blkOf A)) (j : Nat) (u : Value) :
    (∀ k, k ≠ pb → k < w.heap.size → some k ≠ blkOf A → (w5.setCell ⟨pb, j, none⟩ u).heap[k]? = w.heap[k]?) ∧
      w5.heap[pb]? = some (.cells (ptCells Q bl.length vm.length wq.length wts.length) 65 (0, 0)) := by
  refine ⟨fun k h1 h2 h3 => ?_, (hg.block _ (lt_of_block h.box) (fun e => hA e.symm)).trans h.box⟩
  rw [Below.heap_setCell _ _ _ _ h1]
  exact hg.block k h2 h3
theorem PtB.chg {A : Option Addr} (hg : w.grownBy w5 (blkOf A)) (j : Nat) (u : Value) (hA : ∀ k, some k = blkOf A → Q.V pb k) : Chg (Q.V pb) w (w5.setCell ⟨pb, j, none⟩ u) :=
  ((Chg.refl _ w).grown hg (fun k e _ => hA k e.symm)).set _ _ (fun _ => .inl rfl)
theorem new_blk {A A5 : Option Addr} {k n : Nat} (hat : blkOf A5 = blkOf A ∨ blkOf A5 = some n) (hk : k < n) (e : some k = blkOf A5) : some k = blkOf A := by
  rcases hat with h | h
  · rw [← h]; exact e
  · rw [h] at e; injection e with e; omega
theorem PtB.pushM {A5 : Option Addr} {c5 : Nat} {v : Value} (h : PtB B w pb Q bl vm wq wts) (hg : w.grownBy w5 (blkOf Q.am)) (ho : w5.ownsRow B 34 1 (.slice A5 (vm.length + 1) c5) (vm.length + 1) (vm ++ [v])) (hat : blkOf A5 = blkOf Q.am ∨ blkOf A5 = some w.heap.size) :
    PtB B (w5.setCell ⟨pb, 1, none⟩ (.slice A5 (vm.length + 1) c5)) pb { Q with am := A5, cm := c5 } bl (vm ++ [v]) wq wts ∧ PtS pb Q { Q with am := A5, cm := c5 } w (w5.setCell ⟨pb, 1, none⟩ (.slice A5 (vm.length + 1) c5)) := by
  obtain ⟨key, hc⟩ := h.grow h.nm hg 1 (.slice A5 (vm.length + 1) c5)
  have hl : (vm ++ [v]).length = vm.length + 1 := by simp
  refine ⟨⟨?_, own_agree h.bo fun k e => ?_, ?_, own_agree h.wo fun k e => ?_, own_agree h.two fun k e => ?_, h.dis⟩, PtB.chg hg _ _ (fun k e => .inr (.inr (.inl e))), fun k hk hv => ?_, fun k hk hv => hv, rfl, rfl, rfl⟩
  · rw [hl]; exact set_block hc _
  · rw [own_slice] at e
    exact key k (fun x => h.nb (by rw [← e, x])) (h.vlt (.inr (.inl e))) (h.bm e)
  · rw [hl]; exact ownsRow_setCell_other ho (own_ne ho hc (by decide)) _
  · rw [own_slice] at e
    exact key k (fun x => h.nw (by rw [← e, x])) (h.vlt (.inr (.inr (.inr (.inl e))))) (fun e2 => h.mw e2 e)
  · rw [own_slice] at e
    exact key k (fun x => h.nk (by rw [← e, x])) (h.vlt (.inr (.inr (.inr (.inr e))))) (fun e2 => h.mwk e2 e)
  · rcases hv with e | e | e | e | e
    · exact .inl e
    · exact .inr (.inl e)
    · exact .inr (.inr (.inl (new_blk hat hk e)))
    · exact .inr (.inr (.inr (.inl e)))
    · exact .inr (.inr (.inr (.inr e)))
theorem PtB.pushK {A5 : Option Addr} {c5 : Nat} {t : Bool} (h : PtB B w pb Q bl vm wq wts) (hg : w.grownBy w5 (blkOf Q.ak)) (ho : w5.ownsRow B 4 1 (.slice A5 (wts.length + 1) c5) (wts.length + 1) ((wts ++ [t]).map .bool)) (hat : blkOf A5 = blkOf Q.ak ∨ blkOf A5 = some w.heap.size) :
    PtB B (w5.setCell ⟨pb, 4, none⟩ (.slice A5 (wts.length + 1) c5)) pb { Q with ak := A5, ct := c5 } bl vm wq (wts ++ [t]) ∧ PtS pb Q { Q with ak := A5, ct := c5 } w (w5.setCell ⟨pb, 4, none⟩ (.slice A5 (wts.length + 1) c5)) := by
  obtain ⟨key, hc⟩ := h.grow h.nk hg 4 (.slice A5 (wts.length + 1) c5)
  have hl : (wts ++ [t]).length = wts.length + 1 := by simp
  refine ⟨⟨?_, own_agree h.bo fun k e => ?_, own_agree h.mo fun k e => ?_, own_agree h.wo fun k e => ?_, ?_, h.dis⟩, PtB.chg hg _ _ (fun k e => .inr (.inr (.inr (.inr e)))), fun k hk hv => ?_, fun k hk hv => hv, rfl, rfl, rfl⟩
  · rw [hl]; exact set_block hc _
  · rw [own_slice] at e
    exact key k (fun x => h.nb (by rw [← e, x])) (h.vlt (.inr (.inl e))) (h.bk e)
  · rw [own_slice] at e
    exact key k (fun x => h.nm (by rw [← e, x])) (h.vlt (.inr (.inr (.inl e)))) (h.mwk e)
  · rw [own_slice] at e
    exact key k (fun x => h.nw (by rw [← e, x])) (h.vlt (.inr (.inr (.inr (.inl e))))) (h.wk e)
  · rw [hl]; exact ownsRow_setCell_other ho (own_ne ho hc (by decide)) _
  · rcases hv with e | e | e | e | e
    · exact .inl e
    · exact .inr (.inl e)
    · exact .inr (.inr (.inl e))
    · exact .inr (.inr (.inr (.inl e)))
    · exact .inr (.inr (.inr (.inr (new_blk hat hk e))))
theorem PtB.pushW {A5 : Option Addr} {c5 : Nat} {z : Int} (h : PtB B w pb Q bl vm wq wts) (hg : w.grownBy w5 (blkOf Q.aw)) (ho : w5.ownsRow B 3 1 (.slice A5 (wq.length + 1) c5) (wq.length + 1) ((wq ++ [z]).map (.int .i64))) (hat : blkOf A5 = blkOf Q.aw ∨ blkOf A5 = some w.heap.size) :
    PtB B (w5.setCell ⟨pb, 3, none⟩ (.slice A5 (wq.length + 1) c5)) pb { Q with aw := A5, cw := c5 } bl vm (wq ++ [z]) wts ∧ PtS pb Q { Q with aw := A5, cw := c5 } w (w5.setCell ⟨pb, 3, none⟩ (.slice A5 (wq.length + 1) c5)) := by
  obtain ⟨key, hc⟩ := h.grow h.nw hg 3 (.slice A5 (wq.length + 1) c5)
  have hl : (wq ++ [z]).length = wq.length + 1 := by simp
  refine ⟨⟨?_, own_agree h.bo fun k e => ?_, own_agree h.mo fun k e => ?_, ?_, own_agree h.two fun k e => ?_, fun k e e2 => ?_⟩, PtB.chg hg _ _ (fun k e => .inr (.inr (.inr (.inl e)))), fun k hk hv => ?_, fun k hk hv => ?_, rfl, rfl, rfl⟩
  · rw [hl]; exact set_block hc _
  · rw [own_slice] at e
    exact key k (fun x => h.nb (by rw [← e, x])) (h.vlt (.inr (.inl e))) (h.dis k e)
  · rw [own_slice] at e
    exact key k (fun x => h.nm (by rw [← e, x])) (h.vlt (.inr (.inr (.inl e)))) (h.mw e)
  · rw [hl]; exact ownsRow_setCell_other ho (own_ne ho hc (by decide)) _
  · rw [own_slice] at e
    exact key k (fun x => h.nk (by rw [← e, x])) (h.vlt (.inr (.inr (.inr (.inr e))))) (fun e2 => h.wk e2 e)
  · exact h.dis k e (new_blk hat (h.vlt (.inr (.inl e))) e2)
  · rcases hv with e | e | e | e | e
    · exact .inl e
    · exact .inr (.inl e)
    · exact .inr (.inr (.inl e))
    · exact .inr (.inr (.inr (.inl (new_blk hat hk e))))
    · exact .inr (.inr (.inr (.inr e)))
  · rcases hv with e | e
    · exact .inl e
    · exact .inr (new_blk hat hk e)
/-- A cell of a row of its own is set. -/
theorem PtB.setX (w : World) (g q : Nat) (u : Value) : ∀ k, k ≠ g → (w.setCell ⟨g, q, none⟩ u).heap[k]? = w.heap[k]? := fun k hk => Below.heap_setCell _ _ _ _ hk
theorem PtB.setB (h : PtB B w pb Q bl vm wq wts) {g q : Nat} (hg : Q.ab = some ⟨g, 0, none⟩) (z : Int) : PtB B (w.setCell ⟨g, q, none⟩ (.int .i64 z)) pb Q (bl.set q z) vm wq wts ∧ PtS pb Q Q w (w.setCell ⟨g, q, none⟩ (.int .i64 z)) := by
  have hgo : some g = blkOf Q.ab := by rw [hg]; rfl
  have hbo := h.bo
  rw [hg] at hbo
  have hst := hbo.stored q (.int .i64 z)
  have key := PtB.setX w g q (.int .i64 z)
  have hl : (bl.set q z).length = bl.length := List.length_set
  refine ⟨⟨by rw [hl]; exact (key pb (fun e => h.nb (by rw [← hgo, e]))).trans h.box, ?_, own_agree h.mo fun k e => key k (fun x => ?_), own_agree h.wo fun k e => key k (fun x => ?_), own_agree h.two fun k e => key k (fun x => ?_), h.dis⟩, (Chg.refl _ w).set _ _ (fun _ => .inr (.inl hgo)), fun _ _ h => h, fun _ _ h => h, rfl, rfl, rfl⟩
  · rw [hl, hg, List.map_set]; exact hst.1
  · rw [own_slice, x] at e; exact h.bm hgo e
  · rw [own_slice, x] at e; exact h.dis g hgo e
  · rw [own_slice, x] at e; exact h.bk hgo e
theorem PtB.setM (h : PtB B w pb Q bl vm wq wts) {g q : Nat} (hg : Q.am = some ⟨g, 0, none⟩) (v : Value) : PtB B (w.setCell ⟨g, q, none⟩ v) pb Q bl (vm.set q v) wq wts ∧ PtS pb Q Q w (w.setCell ⟨g, q, none⟩ v) := by
  have hgo : some g = blkOf Q.am := by rw [hg]; rfl
  have hmo := h.mo
  rw [hg] at hmo
  have hst := hmo.stored q v
  have key := PtB.setX w g q v
  have hl : (vm.set q v).length = vm.length := List.length_set
  refine ⟨⟨by rw [hl]; exact (key pb (fun e => h.nm (by rw [← hgo, e]))).trans h.box, own_agree h.bo fun k e => key k (fun x => ?_), ?_, own_agree h.wo fun k e => key k (fun x => ?_), own_agree h.two fun k e => key k (fun x => ?_), h.dis⟩, (Chg.refl _ w).set _ _ (fun _ => .inr (.inr (.inl hgo))), fun _ _ h => h, fun _ _ h => h, rfl, rfl, rfl⟩
  · rw [own_slice, x] at e; exact h.bm e hgo
  · rw [hl, hg]; exact hst.1
  · rw [own_slice, x] at e; exact h.mw hgo e
  · rw [own_slice, x] at e; exact h.mwk hgo e
theorem PtB.setK (h : PtB B w pb Q bl vm wq wts) {g q : Nat} (hg : Q.ak = some ⟨g, 0, none⟩) (t : Bool) : PtB B (w.setCell ⟨g, q, none⟩ (.bool t)) pb Q bl vm wq (wts.set q t) ∧ PtS pb Q Q w (w.setCell ⟨g, q, none⟩ (.bool t)) := by
  have hgo : some g = blkOf Q.ak := by rw [hg]; rfl
  have hko := h.two
  rw [hg] at hko
  have hst := hko.stored q (.bool t)
  have key := PtB.setX w g q (.bool t)
  have hl : (wts.set q t).length = wts.length := List.length_set
  refine ⟨⟨by rw [hl]; exact (key pb (fun e => h.nk (by rw [← hgo, e]))).trans h.box, own_agree h.bo fun k e => key k (fun x => ?_), own_agree h.mo fun k e => key k (fun x => ?_), own_agree h.wo fun k e => key k (fun x => ?_), ?_, h.dis⟩, (Chg.refl _ w).set _ _ (fun _ => .inr (.inr (.inr (.inr hgo)))), fun _ _ h => h, fun _ _ h => h, rfl, rfl, rfl⟩
  · rw [own_slice, x] at e; exact h.bk e hgo
  · rw [own_slice, x] at e; exact h.mwk e hgo
  · rw [own_slice, x] at e; exact h.wk e hgo
  · rw [hl, hg, List.map_set]; exact hst.1
/-- The cells of a row of its own. -/
theorem own_ptr {base n c : Nat} {e : TypeId} {A : Option Addr} {xs : List Value} (h : w.ownsRow base e 1 (.slice A n c) n xs) (hn : 0 < n) :
    ∃ g, A = some ⟨g, 0, none⟩ ∧ base ≤ g ∧ g < w.heap.size ∧ (∀ i u, xs[i]? = some u → w.cell? ⟨g, i, none⟩ = some u ∧ w.frozen? ⟨g, i, none⟩ = false) ∧ ∃ cs, w.heap[g]? = some (.cells cs e (0, 0)) := by
  rcases h.2 with ⟨hv, h0⟩ | ⟨g, cap, cur, hv, hb, hh, h1, h2, hsz, htk⟩
  · omega
  · injection hv with hA _ hc
    refine ⟨g, hA, hb, lt_of_block hh, fun i u hu => ⟨block_cell hh ?_, block_free hh⟩, cur, hh⟩
    rw [← htk, List.getElem?_take] at hu
    split at hu
    · simpa using hu
    · cases hu
end
end Go.Proofs.Ytcmhginhfhiolaa
