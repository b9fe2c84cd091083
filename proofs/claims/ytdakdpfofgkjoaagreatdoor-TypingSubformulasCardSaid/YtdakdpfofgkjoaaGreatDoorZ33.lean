/-
  A map from the names of requirements to their first indices.
  Rows of requirements, of signals and of faults that a call keeps itself.
  Walk of typing's nodes: an iterator over the nodes of a formula; the law for a range statement over it.
-/
import Derived.Test.YtdakdpfofgkjoaaGreatDoorZ32
import Derived.Test.YtdakdpfofgkjoaaGreatDoorZ00
import Derived.Test.YtdakdpfofgkjoaaGreatDoorZ15
import Derived.Shelf.Abstract
import Derived.Shelf.AbstractIn
import Derived.Test.YtdakdpfofgkjoaaGreatDoorZ09
set_option linter.unusedVariables false
set_option linter.unusedSimpArgs false
namespace Go.Proofs.YtdakdpfofgkjoaaGreatDoor
open Go.RowKit

def encS (s : ByteArray) : Value := .string s
theorem strS_check (e : Bool) (w : World) (q : ByteArray) : (Instr.checkKey e 10000 9 (encS q)).run Tryz.prog w = .ok () w := by kernel_rfl
theorem strS_key : KeyT Tryz.prog 9 encS :=
  .of_now Tryz.underlying9 strS_check (fun a b => by
    unfold encS
    simp only [Instr.sameNow]
    rw [show (a == b) = decide (a = b) from by rw [Bool.eq_iff_iff, Go.MapKept.bytes_beq, decide_eq_true_eq]]) (fun k => by
    simp only [encS, Instr.sameBits]
    rw [Go.MapKept.bytes_beq])
/-- Block mb maps each name of the first k to its first index. -/
def FirstM (w : World) (mb : Nat) (L : List ByteArray) (k : Nat) : Prop :=
  ∃ M : List (ByteArray × Value), MapIs encS w mb M ∧ ∀ s, lookB M s = if firstN s L < k then some (.int .i64 (firstN s L : Int)) else none
section
variable {w w' : World} {mb k : Nat} {L : List ByteArray}
theorem FirstM.lt (h : FirstM w mb L k) : mb < w.heap.size := let ⟨_, h1, _⟩ := h; MapIs.lt h1
theorem FirstM.of_block (h : FirstM w mb L k) (hb : w'.heap[mb]? = w.heap[mb]?) : FirstM w' mb L k := let ⟨M, h1, h2⟩ := h; ⟨M, MapIs.of_block h1 hb, h2⟩
theorem FirstM.new (w : World) (L : List ByteArray) : FirstM (w.alloc (.map #[] 0)) w.heap.size L 0 := ⟨[], MapIs.new w, fun s => by simp [lookB]⟩
theorem FirstM.has (h : FirstM w mb L k) (s : ByteArray) : (Instr.lookup 99 (.map (some mb)) (.string s) true).run Tryz.prog w = .ok (.tuple #[.int .i64 (if firstN s L < k then (firstN s L : Int) else 0), .bool (decide (firstN s L < k))]) w := by
  obtain ⟨M, h1, h2⟩ := h
  have := run_lookup_b strS_key (T := 99) (E := 3) (P := Tryz.prog) (z := .int .i64 0) (by kernel_rfl) (by kernel_rfl) h1 s true
  rw [h2] at this
  show (Instr.lookup 99 (.map (some mb)) (encS s) true).run Tryz.prog w = _
  rw [this]
  by_cases hk : firstN s L < k <;> simp [hk]
theorem FirstM.look (h : FirstM w mb L k) (s : ByteArray) : (Instr.lookup 99 (.map (some mb)) (.string s) false).run Tryz.prog w = .ok (.int .i64 (if firstN s L < k then (firstN s L : Int) else 0)) w := by
  obtain ⟨M, h1, h2⟩ := h
  have := run_lookup_b strS_key (T := 99) (E := 3) (P := Tryz.prog) (z := .int .i64 0) (by kernel_rfl) (by kernel_rfl) h1 s false
  rw [h2] at this
  show (Instr.lookup 99 (.map (some mb)) (encS s) false).run Tryz.prog w = _
  rw [this]
  by_cases hk : firstN s L < k <;> simp [hk]
theorem FirstM.put (h : FirstM w mb L k) {s : ByteArray} (hs : L.getD k ⟨#[]⟩ = s) (hk : k < L.length) (hn : ¬ firstN s L < k) : ∃ w', (Instr.mapUpdate 99 (.map (some mb)) (.string s) (.int .i64 (k : Int))).run Tryz.prog w = .ok () w' ∧ FirstM w' mb L (k + 1) ∧ w.grownBy w' (some mb) ∧ w'.heap.size = w.heap.size := by
  obtain ⟨M, h1, h2⟩ := h
  obtain ⟨w', e1, e2, e3, e4⟩ := run_update_b strS_key (T := 99) (E := 3) (P := Tryz.prog) (by kernel_rfl) h1 s (.int .i64 (k : Int))
  have hf : firstN s L = k := by have := firstN_of hk hs; omega
  refine ⟨w', e1, ⟨_, e2, fun t => ?_⟩, e3, e4⟩
  rw [lookB_upd, h2]
  by_cases ht : t = s
  · rw [if_pos ht, ht, hf, if_pos (by omega)]
  · rw [if_neg ht]
    have hne : firstN t L ≠ k := fun e => ht (by rw [← hs, ← e]; exact (firstN_at (by rw [e]; exact hk)).symm)
    by_cases h3 : firstN t L < k
    · rw [if_pos h3, if_pos (by omega)]
    · rw [if_neg h3, if_neg (by omega)]
theorem FirstM.skip (h : FirstM w mb L k) {s : ByteArray} (hs : L.getD k ⟨#[]⟩ = s) (hk : k < L.length) (hn : firstN s L < k) : FirstM w mb L (k + 1) := by
  obtain ⟨M, h1, h2⟩ := h
  refine ⟨M, h1, fun t => ?_⟩
  rw [h2]
  have hne : firstN t L ≠ k := fun e => by
    have h3 : L.getD k ⟨#[]⟩ = t := by rw [← e]; exact firstN_at (by rw [e]; exact hk)
    rw [hs] at h3
    subst h3
    omega
  by_cases h3 : firstN t L < k
  · rw [if_pos h3, if_pos (by omega)]
  · rw [if_neg h3, if_neg (by omega)]
end
end Go.Proofs.YtdakdpfofgkjoaaGreatDoor
set_option linter.unusedVariables false
set_option linter.unusedSimpArgs false
namespace Go.Proofs.YtdakdpfofgkjoaaGreatDoor
open Go.RowKit

theorem own_empty {w : World} {base g size : Nat} {e : TypeId} (hb : base ≤ g) (h : w.heap[g]? = some (.cells #[] e (0, 0))) : w.ownsRow base e size (.slice (some ⟨g, 0, none⟩) 0 0) 0 [] :=
  ⟨by simp, .inr ⟨g, 0, #[], rfl, hb, h, Nat.le_refl _, by omega, by simp, by simp⟩⟩
theorem own_ge {w : World} {base n size : Nat} {e : TypeId} {v : Value} {xs : List Value} (h : w.ownsRow base e size v n xs) {k : Nat} (hk : v.ownBlock = some k) : base ≤ k ∧ k < w.heap.size := by
  rcases h.2 with ⟨h0, _⟩ | ⟨g, cap, cur, hv, hb, hg, _⟩
  · rw [h0] at hk; cases hk
  · rw [hv] at hk
    injection hk with hk
    have : g = k := hk
    subst this
    exact ⟨hb, lt_of_block hg⟩
/-- A row of requirements that is the call's own; what their formulas hold lies below it. -/
structure QRow (w : World) (base : Nat) (A : Option Addr) (c : Nat) (rs : List Rq) (sl : List (Option Addr × Nat)) : Prop where
  own : w.ownsRow base 54 8 (.slice A rs.length c) rs.length (cellsQ rs sl)
  len : sl.length = rs.length
  arg : ∀ i, i < rs.length → RdA w (· < base) (rs.getD i default).f.args (sl.getD i (none, 0)).1 (sl.getD i (none, 0)).2
theorem cellsQ_append {gs ms : List Rq} {sl sm : List (Option Addr × Nat)} (h : sl.length = gs.length) : cellsQ (gs ++ ms) (sl ++ sm) = cellsQ gs sl ++ cellsQ ms sm := by
  unfold cellsQ
  rw [List.zip_append h.symm, List.flatMap_append]
section
variable {w w' : World} {base c : Nat} {A : Option Addr} {rs : List Rq} {sl : List (Option Addr × Nat)}
theorem QRow.nil (w : World) (base : Nat) : QRow w base none 0 [] [] := ⟨⟨rfl, .inl ⟨rfl, rfl⟩⟩, rfl, fun i h => absurd h (Nat.not_lt_zero _)⟩
theorem QRow.empty {w : World} {base g : Nat} (hb : base ≤ g) (h : w.heap[g]? = some (.cells #[] 54 (0, 0))) : QRow w base (some ⟨g, 0, none⟩) 0 [] [] := ⟨own_empty hb h, rfl, fun i h => absurd h (Nat.not_lt_zero _)⟩
theorem QRow.below (h : QRow w base A c rs sl) (hb : Below w.heap.size w w') : QRow w' base A c rs sl :=
  ⟨own_below h.own hb, h.len, fun i hi => ((h.arg i hi).mono (E := fun k => k < base ∧ k < w.heap.size) fun k hk hl => ⟨hk, hl⟩).keep (Keeps.of_below hb fun _ h => h.2) |>.mono fun _ h _ => h.1⟩
theorem QRow.rd (h : QRow w base A c rs sl) (hn : rs.length ≤ 140737488355328) : RdR w AnyD A c rs :=
  ⟨sl, h.len, Rd.own h.own hn fun _ _ => trivial, fun i hi => (h.arg i hi).mono fun _ _ _ => trivial⟩
theorem QRow.app {A' : Option Addr} {c' n : Nat} {r : Rq} {s : Option Addr × Nat} (h : QRow w base A c rs sl) (hg : w.grownBy w' (Value.slice A rs.length c).ownBlock) (hn : n = (rs ++ [r]).length)
    (hown : w'.ownsRow base 54 8 (.slice A' n c') n (cellsQ rs sl ++ qcells r s)) (hr : RdA w (· < base) r.f.args s.1 s.2) : QRow w' base A' c' (rs ++ [r]) (sl ++ [s]) := by
  subst hn
  have key : ∀ {l : List Fm} {B : Option Addr} {d : Nat}, RdA w (· < base) l B d → RdA w' (· < base) l B d := fun h1 =>
    h1.keep ⟨hg.size, fun k hk hl => hg.block k hl fun e => by have := own_ge h.own e.symm; omega⟩
  have e1 : cellsQ [r] [s] = qcells r s := by show qcells r s ++ [] = _; rw [List.append_nil]
  refine ⟨by rw [cellsQ_append h.len, e1]; exact hown, by rw [List.length_append, List.length_append, h.len]; rfl, fun i hi => ?_⟩
  by_cases hl : i < rs.length
  · have e1 : (rs ++ [r]).getD i default = rs.getD i default := by simp [List.getD, List.getElem?_append_left hl]
    have e2 : (sl ++ [s]).getD i (none, 0) = sl.getD i (none, 0) := by simp [List.getD, List.getElem?_append_left (show i < sl.length by rw [h.len]; exact hl)]
    rw [e1, e2]
    exact key (h.arg i hl)
  · have hi' : i = rs.length := by rw [List.length_append] at hi; simp at hi; omega
    subst hi'
    have e1 : (rs ++ [r]).getD rs.length default = r := by simp [List.getD]
    have e2 : (sl ++ [s]).getD rs.length (none, 0) = s := by rw [← h.len]; simp [List.getD]
    rw [e1, e2]
    exact key hr
end
theorem qcells_one (r : Rq) (s : Option Addr × Nat) : ∀ u ∈ qcells r s, u.oneCell' = true := by
  intro u hu
  simp only [qcells, List.mem_cons, List.not_mem_nil, or_false] at hu
  rcases hu with rfl | rfl | rfl | rfl | rfl | rfl | rfl | rfl <;> rfl
theorem gcells_one (l : List Sg) : ∀ u ∈ l.flatMap gcells, u.oneCell' = true := by
  intro u hu
  obtain ⟨s, _, hu⟩ := List.mem_flatMap.1 hu
  simp only [gcells, List.mem_cons, List.not_mem_nil, or_false] at hu
  rcases hu with rfl | rfl | rfl <;> rfl
/-- Faults. -/
def tcells (x : Int × Int) : List Value := [.int .i64 x.1, .int .i64 x.2]
def RdT (w : World) (D : Dom) (A : Option Addr) (c : Nat) (l : List (Int × Int)) : Prop := Rd w D 2 A l.length c (l.flatMap tcells)
section
variable {D E : Dom} {w w' : World} {A : Option Addr} {c : Nat} {l : List (Int × Int)}
theorem RdT.nil (w : World) (D : Dom) (A : Option Addr) {c : Nat} (hc : c ≤ 9223372036854775807) : RdT w D A c [] := Rd.nil w D 2 A hc
theorem RdT.any (h : RdT w D A c l) (hb : Below w.heap.size w w') : RdT w' AnyD A c l := ((Rd.old h).keep (Keeps.of_below hb fun _ h => h)).mono fun _ _ _ => trivial
theorem RdT.get {k : Nat} (h : RdT w D A c l) (hk : k < l.length) : ∃ b o x, A = some ⟨b, o, none⟩ ∧ D b ∧ b < w.heap.size ∧ Hid (l.getD k (0, 0) = x) ∧
    w.cell? ⟨b, o + k * 2, none⟩ = some (.int .i64 x.1) ∧ w.cell? ⟨b, o + k * 2 + 1, none⟩ = some (.int .i64 x.2) := by
  obtain ⟨b, o, e, hb, hl, hc⟩ := h.2 (by omega)
  have g : ∀ j u, j < 2 → (tcells (l.getD k (0, 0)))[j]? = some u → w.cell? ⟨b, o + (k * 2 + j), none⟩ = some u := fun j u hj hu => hc _ _ (by rw [flatF_at tcells (0, 0) 2 (fun _ => rfl) l k j hk hj]; exact hu)
  have g0 := g 0 _ (by omega) rfl
  have g1 := g 1 _ (by omega) rfl
  exact ⟨b, o, l.getD k (0, 0), e, hb, hl, hid rfl, by simpa using g0, by simpa [Nat.add_assoc] using g1⟩
end
end Go.Proofs.YtdakdpfofgkjoaaGreatDoor
set_option linter.unusedVariables false
set_option linter.unusedSimpArgs false
namespace Go.Proofs.YtdakdpfofgkjoaaGreatDoor
open Go.RowKit Go.Shelf
attribute [local go_sem] cell_alloc_old run_store_func

/-- What is asked of the rounds of a loop over the nodes L (as RoundsF, for the iterator of typing). -/
structure RoundsT (l : Nat) (L : List (Fm × Bool)) (Z : Dom) (B0 B1 : Nat) (J : Nat → World → Prop) (X : World → Prop) : Prop where
  z : ∀ b, Z b → B0 ≤ b ∧ (b < B1 ∨ B1 + 2 ≤ b)
  keep : ∀ k W W', J k W → Chg (fun b => B1 ≤ b ∧ b < B1 + 2) W W' → J k W'
  keepX : ∀ W W', X W → Chg (fun b => B1 ≤ b ∧ b < B1 + 2) W W' → X W'
  step : ∀ k W b o A c, B1 + 2 ≤ W.heap.size → J k W → k < L.length → HasF W (· < B0) b o (L.getD k default).1 A c →
    YieldAt Fence.wide 0 Tryz.prog l #[.pointer (some ⟨b, o, none⟩)] W fun e W' => Chg Z W W' ∧ ((e = .returned (.bool true) ∧ J (k + 1) W') ∨ (e = .returned (.bool false) ∧ X W'))
/-- The iterator's blocks while it visits. -/
structure VisT (w : World) (l yb vb : Nat) : Prop where
  y : w.heap[yb]? = some (.cells #[.func (.yield l) #[] #[]] 82 (0, 0))
  v : w.heap[vb]? = some (.cells #[.func (.func 62) #[] #[.pointer (some ⟨yb, 0, none⟩), .pointer (some ⟨vb, 0, none⟩)]] 82 (0, 0))
theorem VisT.chg {w w' : World} {l yb vb : Nat} {V : Dom} (h : VisT w l yb vb) (hc : Chg V w w') (hy : ¬ V yb) (hv : ¬ V vb) : VisT w' l yb vb := ⟨hc.box h.y hy, hc.box h.v hv⟩
set_option maxRecDepth 100000 in
set_option maxHeartbeats 4000000 in
/-- A visit: the nodes of f, in their order, unless a round stops. -/
theorem visitT_any {l : Nat} {L : List (Fm × Bool)} {Z : Dom} {B0 B1 : Nat} {J : Nat → World → Prop} {X : World → Prop} (hR : RoundsT l L Z B0 B1 J X) (yb vb : Nat) (hy : B1 ≤ yb ∧ yb < B1 + 2) (hv : B1 ≤ vb ∧ vb < B1 + 2) (hB : 0 < B0) (f : Fm) : ∀ (ins : Bool) (b o : Nat) (A : Option Addr) (c : Nat) (k : Nat) (w : World) (hf : HasF w (· < B0) b o f A c) (hvb : VisT w l yb vb) (hs : B1 + 2 ≤ w.heap.size) (hj : J k w) (hl : (L.drop k).take f.size = preL ins f),
    Calls Tryz.prog 62 #[.pointer (some ⟨b, o, none⟩), .pointer (some ⟨yb, 0, none⟩), .pointer (some ⟨vb, 0, none⟩)] w (VisSays Z J X (k + f.size) w) := by
  refine Fm.induct (P := fun f => ∀ (ins : Bool) (b o : Nat) (A : Option Addr) (c : Nat) (k : Nat) (w : World) (hf : HasF w (· < B0) b o f A c) (hvb : VisT w l yb vb) (hs : B1 + 2 ≤ w.heap.size) (hj : J k w) (hl : (L.drop k).take f.size = preL ins f),
    Calls Tryz.prog 62 #[.pointer (some ⟨b, o, none⟩), .pointer (some ⟨yb, 0, none⟩), .pointer (some ⟨vb, 0, none⟩)] w (VisSays Z J X (k + f.size) w)) ?_ f
  intro f ih ins b o A c k w hf hvb hs hj hl
  have HR := hid hR
  have HIH := hid ih
  have HSZ := hid (Fm.size_eq f)
  have HH := hid hf
  have HV := hid hvb
  have HJ := hid hj
  have HL := hid hl
  have HNY := hid (show ¬ Z yb from fun h => by have := hR.z _ h; omega)
  have HNV := hid (show ¬ Z vb from fun h => by have := hR.z _ h; omega)
  have HKZ : Hid (∀ b, b < w.heap.size → b < B0 → ¬ Z b) := hid fun b _ h hz => by have := hR.z _ hz; omega
  have hal := hf.args.len.1
  obtain ⟨hkL, hLk⟩ := drop_take_head hl
  obtain ⟨yf, yt, ya, yb', hyr, hR4⟩ := hR.step k w b o A c hs hj hkL (by rw [hLk]; exact hf)
  obtain ⟨_, hlw, _, _, _, _, _, _⟩ := hf
  have y0 := block_cell hvb.y (i := 0) rfl
  have HR4 := hid hR4
  clear hR ih hvb hj hl hkL hLk hR4
  go_enter Tryz.func62, Tryz.ntmps62
  go_upto_region 1 with (fail)
  refine (wpIn_wide (n := 1)).1 ?_
  gi_wp2
  refine HR4.out.mono ?_
  rintro e w4 ⟨hc4, (⟨rfl, hJ4⟩ | ⟨rfl, hX4⟩)⟩
  rotate_left
  · have HC4 := hid hc4
    have HX4 := hid hX4
    clear hc4 hX4 y0 hyr
    gi_wp2
    go_wp2_with fail
    go_ret
    exact ⟨HC4.out, false, rfl, (fun h => by cases h), fun _ => HX4.out⟩
  · have HC8 := hid hc4
    have HJ8 := hid hJ4
    obtain ⟨_, hl4, c0, c1, c2, c3, c4, _⟩ := HH.out.keep (hc4.keeps HKZ.out)
    obtain ⟨ps, hps⟩ : ∃ ps, ps = (ins || (formZ f.op).past) := ⟨_, rfl⟩
    have HQ := hid hps
    clear hc4 hJ4 y0 hyr c0 c1 c2 c3 hps
    gi_wp2
    go_wp2_with fail
    go_loopw [15] (fun q wr => ∃ i : Nat, i ≤ f.args.length ∧ q = .int .i64 (i : Int) ∧ Chg Z w wr ∧ J (k + 1 + sizes (f.args.take i)) wr) (fun q _ => f.args.length - (intOf q).toNat)
    case atStart => exact ⟨0, Nat.zero_le _, rfl, HC8.out, by simpa [sizes] using HJ8.out⟩
    case round =>
      obtain ⟨i, hi, rfl, hc, hj⟩ := hrel
      have HCR := hid hc
      have HJR := hid hj
      obtain ⟨_, hlr, _, _, _, _, c4', ha'⟩ := HH.out.keep (hc.keeps HKZ.out)
      have HAR := hid ha'
      have hvr := HV.out.chg hc HNY.out HNV.out
      have HVR := hid hvr
      have HSZR := hid (Nat.le_trans hs hc.size)
      clear hc hj ha' hvr
      by_cases hli : i < f.args.length
      · have hii : (i : Int) < f.args.length := by omega
        obtain ⟨b1, o1, A1, c1, g, rfl, HX, hg⟩ := HAR.out.get hli
        have HSN := hid (sizes_snoc f.args hli)
        have HLG := hid (drop_take_arg HL.out hli HX.out)
        have HIG := hid (HIH.out i hli)
        rw [HX.out] at HSN HIG
        rw [← HQ.out] at HLG
        have f0 := block_cell HVR.out.v (i := 0) rfl
        have HCALL : Hid (∀ W', Drawn wr W' → Calls Tryz.prog 62 #[.pointer (some ⟨b1, o1 + i * 5, none⟩), .pointer (some ⟨yb, 0, none⟩), .pointer (some ⟨vb, 0, none⟩)] W' fun e W9 => Chg Z wr W9 ∧ ∃ r, e = .returned (.bool r) ∧ (r = true → J (k + 1 + sizes (f.args.take (i + 1))) W9) ∧ (r = false → X W9)) := hid fun W' hdw => by
          have hbw := hdw.below wr.heap.size
          have hcd : Chg (fun b => B1 ≤ b ∧ b < B1 + 2) wr W' := Chg.of_new hbw
          refine (HIG.out ps b1 (o1 + i * 5) A1 c1 (k + 1 + sizes (f.args.take i)) W' (hg.keep hdw.keeps) ⟨(hbw.block _ (lt_of_block HVR.out.y)).trans HVR.out.y, (hbw.block _ (lt_of_block HVR.out.v)).trans HVR.out.v⟩ (Nat.le_trans HSZR.out hbw.size) (HR.out.keep _ _ _ HJR.out hcd) HLG.out).mono ?_
          rintro e w' ⟨hc, hx⟩
          rw [HSN.out, ← Nat.add_assoc]
          exact ⟨(Chg.of_new (V := Z) hbw).trans hc, hx⟩
        have HCELL : Hid (∀ W' : World, Chg Z wr W' → W'.cell? ⟨vb, 0, none⟩ = some (.func (.func 62) #[] #[.pointer (some ⟨yb, 0, none⟩), .pointer (some ⟨vb, 0, none⟩)]) ∧ W'.cell? ⟨b, o + 4, none⟩ = some (.slice (some ⟨b1, o1, none⟩) f.args.length c)) := hid fun W' hc =>
          ⟨block_cell (HVR.out.chg hc HNY.out HNV.out).v (i := 0) rfl, (HH.out.keep ((HCR.out.trans hc).keeps HKZ.out)).c4⟩
        clear hg
        have HI1 := hid (show Drawn wr wr.drew from (Drawn.refl wr).drew)
        have HI2 := hid (fun i => Drawn.n wr i)
        go_upto_region 6 with (fail)
        go_region_held3 (fun W' : World => W'.cell? ⟨vb, 0, none⟩ = some (.func (.func 62) #[] #[.pointer (some ⟨yb, 0, none⟩), .pointer (some ⟨vb, 0, none⟩)]) ∧ W'.cell? ⟨b, o + 4, none⟩ = some (.slice (some ⟨b1, o1, none⟩) f.args.length c))
          (first | (with_reducible exact HCELL.out _ hI) | (go_keep; done))
          ((go_at_call 62; with_reducible refine (HCALL.out _ (by first | exact HI1.out | exact HI2.out _)).mono ?_; rintro e W9 ⟨hI, r, rfl, hJ, hX⟩))
        all_goals
          have HCI := hid hI
          have HCJ := hid hJ
          have HCX := hid hX
          clear hI hJ hX f0 c4'
          cases r
          · go_wp2_with fail
            go_ret
            exact ⟨HCR.out.trans HCI.out, false, rfl, (fun h => by cases h), fun _ => HCX.out trivial⟩
          · go_wp2_with fail
            go_roundw
            case rel => exact ⟨i + 1, by omega, by go_num, HCR.out.trans HCI.out, HCJ.out rfl⟩
            case measure => simp [intOf]; omega
      · have hie : f.args.take i = f.args := List.take_of_length_le (by omega)
        have hnl : ¬ (i : Int) < f.args.length := by omega
        have HJE := hid (show J (k + f.size) wr by have := HJR.out; rw [hie] at this; rw [HSZ.out, ← Nat.add_assoc]; exact this)
        clear hie
        go_wp2_with fail
        go_ret
        exact ⟨HCR.out, true, rfl, (fun _ => HJE.out), fun h => by cases h⟩
set_option maxRecDepth 100000 in
set_option maxHeartbeats 4000000 in
theorem nodesT1_any {l : Nat} {Z : Dom} {B0 B1 : Nat} {J : Nat → World → Prop} {X : World → Prop} (f : Fm) (hR : RoundsT l (preL false f) Z B0 B1 J X) (hB : 0 < B0) (b o pb : Nat) (A : Option Addr) (c : Nat) (w : World)
    (hw : w.heap.size = B1) (hBB : B0 ≤ B1) (hf : HasF w (· < B0) b o f A c) (hp : w.cell? ⟨pb, 0, none⟩ = some (.pointer (some ⟨b, o, none⟩))) (hj : J 0 w) :
    Calls Tryz.prog 61 #[.func (.yield l) #[] #[], .pointer (some ⟨pb, 0, none⟩)] w fun e w' => (∃ v, e = .returned v) ∧ Chg Z w w' ∧ (J f.size w' ∨ X w') := by
  subst hw
  have HR := hid hR
  have HH := hid hf
  have HJ := hid hj
  have hpl : pb < w.heap.size := World.block_lt_of_cell? w _ hp
  clear hR hf hj
  go_enter Tryz.func61, Tryz.ntmps61
  go_upto_region 2 with (fail)
  refine wp_gen fun W hW => ?_
  have hbw : Below w.heap.size w W := by rw [hW]; go_grown
  have e0 : W.heap[w.heap.size]? = some (.cells #[.func (.yield l) #[] #[]] 82 (0, 0)) := by
    rw [hW, at_old _ _ _ (by simp only [World.size_alloc]; omega), at_new _ _ _ rfl]
  have e3 : W.heap[w.heap.size + 1]? = some (.cells #[.nilFunc] 82 (0, 0)) := by
    rw [hW, at_new _ _ _ (by simp only [World.size_alloc])]
  have hws : W.heap.size = w.heap.size + 2 := by rw [hW]; simp only [World.size_alloc]
  have hpW : W.cell? ⟨pb, 0, none⟩ = some (.pointer (some ⟨b, o, none⟩)) := (hbw.cell (p := ⟨pb, 0, none⟩) hpl).trans hp
  clear hW hp
  have z0 := block_cell e3 (i := 0) rfl
  have z1 := block_free e3 (i := 0)
  have z2 := lt_of_block e3
  have hplW : pb < W.heap.size := by omega
  have HE0 := hid e0
  have HE3 := hid e3
  have HBW := hid hbw
  have HWS := hid hws
  have HPW := hid hpW
  clear e0 e3 hbw hws hpW
  go_upto_region 3 with (fail)
  refine wp_gen fun W3 hW => ?_
  have hvb3 : VisT W3 l w.heap.size (w.heap.size + 1) := by
    refine ⟨?_, ?_⟩
    · rw [hW, Below.heap_setCell _ _ _ _ (by simp only []; omega)]; exact HE0.out
    · rw [hW, set_block HE3.out]; rfl
  have hb3 : Below w.heap.size w W3 := by
    rw [hW]
    exact HBW.out.trans ((Chg.set (V := fun k => k = w.heap.size + 1) (Chg.refl _ W) _ _ fun _ => rfl).below (fun b hb => by omega) HBW.out.size)
  have hs3 : w.heap.size + 2 ≤ W3.heap.size := by rw [hW]; simp; have := HWS.out; omega
  have hp3 : W3.cell? ⟨pb, 0, none⟩ = some (.pointer (some ⟨b, o, none⟩)) := by
    rw [← HPW.out]
    have := (Chg.set (V := fun k => k = w.heap.size + 1) (Chg.refl _ W) (p := ⟨w.heap.size + 1, 0, none⟩) (u := .func (.func 62) #[] #[.pointer (some ⟨w.heap.size, 0, none⟩), .pointer (some ⟨w.heap.size + 1, 0, none⟩)]) fun _ => rfl)
    rw [← hW] at this
    exact World.cell?_of_block (w := W) (a := ⟨pb, 0, none⟩) (this.block pb (by simpa using hplW) (by omega))
  have f0 := block_cell hvb3.v (i := 0) rfl
  have HCALL : Hid (Calls Tryz.prog 62 #[.pointer (some ⟨b, o, none⟩), .pointer (some ⟨w.heap.size, 0, none⟩), .pointer (some ⟨w.heap.size + 1, 0, none⟩)] W3 fun e W9 => Chg Z W3 W9 ∧ ∃ r, e = .returned (.bool r) ∧ (r = true → J (0 + f.size) W9) ∧ (r = false → X W9)) :=
    hid (visitT_any HR.out w.heap.size (w.heap.size + 1) (by omega) (by omega) hB f false b o A c 0 W3 (HH.out.keep (Keeps.of_below hb3 fun k (hk : k < B0) => Nat.lt_of_lt_of_le hk hBB)) hvb3 hs3 (HR.out.keep _ _ _ HJ.out (Chg.of_new hb3)) (by rw [List.drop_zero, ← preL_len false f, List.take_length]))
  have HB3 := hid hb3
  clear hW hb3 hvb3 z0 z1 z2 HE0 HE3 HBW HWS HPW hplW
  go_wp2_with (first | (go_at_call 62; with_reducible refine HCALL.out.mono ?_; rintro e W9 ⟨hI, r, rfl, hJ, hX⟩))
  have hc9 := (Chg.of_new (V := Z) HB3.out).trans hI
  go_end0
  refine ⟨⟨_, rfl⟩, hc9, ?_⟩
  cases r
  · exact .inr (hX rfl)
  · have := hJ rfl
    rw [Nat.zero_add] at this
    exact .inl this
end Go.Proofs.YtdakdpfofgkjoaaGreatDoor
