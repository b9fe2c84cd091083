/-
  The machine of classes that a list of numbers tells; plain.
  Walk of the reference's move.
  A controller while it is made row by row, beside a further row of ints that grows.
  Walk of the reference's numbered: a controller is made while its states are found.
-/
import Derived.Test.YtcmhginhfhiolaaZ09
import Derived.Test.YtcmhginhfhiolaaZ10
import Derived.Test.YtcmhginhfhiolaaZ01
import Derived.Test.YtcmhginhfhiolaaZ06
set_option linter.unusedVariables false
set_option linter.unusedSimpArgs false
namespace Go.Proofs.Ytcmhginhfhiolaa

def hasMv (L : Mac) (cl : List Nat) (c x i : Nat) : Bool := decide (cl.getD i 0 = c) && (L.mv i x).isSome
def quoMv (L : Mac) (cl : List Nat) (c x : Nat) : Option (Int × Nat) := ((List.range L.size).find? (hasMv L cl c x)).bind fun i => (L.mv i x).map fun z => (z.1, cl.getD z.2 0)
def quoM (L : Mac) (cl : List Nat) : Mac := ⟨L.size, cl.getD L.start 0, L.ins, L.outs, quoMv L cl⟩
section
variable {L : Mac} {cl : List Nat} {c x : Nat}
theorem find_range (p : Nat → Bool) : ∀ (n i : Nat), i < n → p i = true → (∀ j, j < i → p j = false) → (List.range n).find? p = some i
  | 0, i, h, _, _ => by omega
  | n + 1, i, h, hp, hb => by
    rw [List.range_succ, List.find?_append]
    by_cases hi : i < n
    · rw [find_range p n i hi hp hb]; rfl
    · obtain rfl : i = n := by omega
      have : (List.range i).find? p = none := List.find?_eq_none.2 fun j hj => by simp [hb j (List.mem_range.1 hj)]
      rw [this]
      simp [hp]
theorem quoMv_at {i : Nat} {o : Int} {t : Nat} (hi : i < L.size) (hb : ∀ j, j < i → hasMv L cl c x j = false) (hc : cl.getD i 0 = c) (hm : L.mv i x = some (o, t)) : quoMv L cl c x = some (o, cl.getD t 0) := by
  unfold quoMv
  rw [find_range _ L.size i hi (by unfold hasMv; rw [hc, hm]; simp) hb]
  show (L.mv i x).map _ = _
  rw [hm]; rfl
theorem quoMv_none (hb : ∀ j, j < L.size → hasMv L cl c x j = false) : quoMv L cl c x = none := by
  unfold quoMv
  have : (List.range L.size).find? (hasMv L cl c x) = none := List.find?_eq_none.2 fun j hj => by simp [hb j (List.mem_range.1 hj)]
  rw [this]; rfl
theorem quoMv_cases : (∃ i o t, i < L.size ∧ cl.getD i 0 = c ∧ L.mv i x = some (o, t) ∧ quoMv L cl c x = some (o, cl.getD t 0)) ∨ ((∀ j, j < L.size → cl.getD j 0 = c → L.mv j x = none) ∧ quoMv L cl c x = none) := by
  rcases hf : (List.range L.size).find? (hasMv L cl c x) with _ | i
  · right
    have h1 := List.find?_eq_none.1 hf
    refine ⟨fun j hj e => ?_, by unfold quoMv; rw [hf]; rfl⟩
    have := h1 j (List.mem_range.2 hj)
    unfold hasMv at this
    rw [e] at this
    rcases hm : L.mv j x with _ | z
    · rfl
    · rw [hm] at this; simp at this
  · left
    have h1 := List.find?_some hf
    have h2 := List.mem_range.1 (List.mem_of_find?_eq_some hf)
    unfold hasMv at h1
    rw [Bool.and_eq_true, decide_eq_true_eq] at h1
    rcases hm : L.mv i x with _ | ⟨o, t⟩
    · rw [hm] at h1; simp at h1
    · refine ⟨i, o, t, h2, h1.1, hm, ?_⟩
      unfold quoMv
      rw [hf]
      show (L.mv i x).map _ = _
      rw [hm]; rfl
theorem quoM_ok (hL : L.Ok) (hlt : ∀ i, i < L.size → cl.getD i 0 < L.size) : (quoM L cl).Ok := by
  refine ⟨hlt _ hL.st, fun q y o t hq hy e => ?_⟩
  have e' : quoMv L cl q y = some (o, t) := e
  rcases quoMv_cases (L := L) (cl := cl) (c := q) (x := y) with ⟨i, o1, t1, hi, _, hm, h⟩ | ⟨_, h⟩
  · rw [h] at e'
    injection e' with e'
    injection e' with _ e'
    rw [← e']
    exact hlt _ (hL.tgt i y o1 t1 hi hy hm)
  · rw [h] at e'; cases e'
theorem quo_quo (hL : L.Ok) (hg : Good L (RelC cl)) : Quo L (fun i => cl.getD i 0) (quoM L cl) := by
  refine ⟨rfl, rfl, rfl, fun i y o t hi hy hm => ?_, fun i y hi hy h => ?_⟩
  · show quoMv L cl (cl.getD i 0) y = some (o, cl.getD t 0)
    rcases quoMv_cases (L := L) (cl := cl) (c := cl.getD i 0) (x := y) with ⟨j, o1, t1, hj, hc, hm1, h⟩ | ⟨h, _⟩
    · have hcg := hg.cong j i y o1 t1 o t hj hi hc hy hm1 hm
      rw [h, hcg.1]
      have : cl.getD t1 0 = cl.getD t 0 := hcg.2
      rw [this]
    · rw [h i hi rfl] at hm; cases hm
  · show quoMv L cl (cl.getD i 0) y = none
    rcases quoMv_cases (L := L) (cl := cl) (c := cl.getD i 0) (x := y) with ⟨j, o1, t1, hj, hc, hm1, _⟩ | ⟨_, h'⟩
    · rw [h j hj hc] at hm1; cases hm1
    · exact h'
theorem isQuo_cl {E : Rel} (hL : L.Ok) (hlt : ∀ i, i < L.size → cl.getD i 0 < L.size) (hE : Good L E) (hr : ∀ i j, i < L.size → j < L.size → (RelC cl i j ↔ E i j)) : IsQuo L E (build (quoM L cl)) := by
  have hg : Good L (RelC cl) := ⟨fun _ _ => rfl, fun _ _ h => h.symm, fun _ _ _ h k => h.trans k, fun i j x o t o' t' hi hj hij hx e e' => by
    have := hE.cong i j x o t o' t' hi hj ((hr i j hi hj).1 hij) hx e e'
    exact ⟨this.1, (hr t t' (hL.tgt i x o t hi hx e) (hL.tgt j x o' t' hj hx e')).2 this.2⟩⟩
  exact ⟨fun i => cl.getD i 0, quoM L cl, quo_quo hL hg, quoM_ok hL hlt, hr, rfl⟩
end

/-- What closed says of a try. -/
theorem closed_try {L : Mac} {cl cl' : List Nat} {E : Rel} {n k a b : Nat} {ok : Bool} (hl : cl.length = L.size) (hn : n < L.size) (hk : k < L.size) (hab : (a = cl.getD n 0 ∧ b = cl.getD k 0) ∨ (a = cl.getD k 0 ∧ b = cl.getD n 0))
    (hr : ∀ i j, i < L.size → j < L.size → (RelC cl i j ↔ E i j)) (h : Closed L (unitedN cl a b) cl' ok) :
    (ok = true → CanJoin L E n k ∧ ∀ i j, i < L.size → j < L.size → (RelC cl' i j ↔ JoinRel L E n k i j)) ∧ (ok = false → ¬ CanJoin L E n k) := by
  have key : ∀ G, Good L G → (Sub L (RelC (unitedN cl a b)) G ↔ Sub L E G ∧ G n k) := fun G hG => by
    rw [united_sub hl hn hk hab hG]
    exact ⟨fun h => ⟨fun i j hi hj e => h.1 i j hi hj ((hr i j hi hj).2 e), h.2⟩, fun h => ⟨fun i j hi hj e => h.1 i j hi hj ((hr i j hi hj).1 e), h.2⟩⟩
  constructor
  · intro hok
    obtain ⟨hci, hg⟩ := h.1 hok
    have h1 := (key _ hg).1 hci.up
    refine ⟨⟨_, hg, h1.1, h1.2⟩, fun i j hi hj => ⟨fun e G hG hs hnk => hci.low G hG ((key G hG).2 ⟨hs, hnk⟩) i j hi hj e, fun e => e _ hg h1.1 h1.2⟩⟩
  · rintro hok ⟨G, hG, hs, hnk⟩
    exact h.2 hok ⟨G, hG, (key G hG).2 ⟨hs, hnk⟩⟩
/-- The classes before state n is tried; while it is tried. -/
structure MrgI (L : Mac) (n : Nat) (cl : List Nat) : Prop where
  len : cl.length = L.size
  lt : ∀ i, i < L.size → cl.getD i 0 < L.size
  rel : ∀ i j, i < L.size → j < L.size → (RelC cl i j ↔ mergeTo L n i j)
structure TryI (L : Mac) (n k : Nat) (cl : List Nat) (d : Bool) : Prop where
  len : cl.length = L.size
  lt : ∀ i, i < L.size → cl.getD i 0 < L.size
  rel : ∀ i j, i < L.size → j < L.size → (RelC cl i j ↔ (tryTo L (mergeTo L n) n k).1 i j)
  flag : d = true ↔ (tryTo L (mergeTo L n) n k).2
section
variable {L : Mac} {n k a b : Nat} {cl cl' : List Nat} {d : Bool}
theorem MrgI.one : MrgI L 1 (List.range L.size) := by
  have hg : ∀ i, i < L.size → (List.range L.size).getD i 0 = i := fun i hi => by simp [List.getD, hi]
  refine ⟨by simp, fun i hi => by rw [hg i hi]; exact hi, fun i j hi hj => ?_⟩
  unfold RelC
  rw [hg i hi, hg j hj]
  exact Iff.rfl
theorem MrgI.start (h : MrgI L n cl) : TryI L n 0 cl false := ⟨h.len, h.lt, h.rel, ⟨fun h => (by cases h), fun h => absurd h (fun x => x)⟩⟩
theorem TryI.off (h : TryI L n k cl false) : ¬ (tryTo L (mergeTo L n) n k).2 := fun x => by have := h.flag.2 x; cases this
theorem TryI.stay (h : TryI L n k cl false) (hs : (tryTo L (mergeTo L n) n k).1 n k ∨ ¬ CanJoin L (tryTo L (mergeTo L n) n k).1 n k) : TryI L n (k + 1) cl false := by
  have h1 := try_same (L := L) (E := mergeTo L n) (n := n) (k := k) (.inr hs)
  refine ⟨h.len, h.lt, fun i j hi hj => by rw [h1]; exact h.rel i j hi hj, ⟨fun h => (by cases h), fun x => ?_⟩⟩
  exact absurd ((try_flag (.inr hs)).1 x) h.off
theorem TryI.skip (h : TryI L n k cl false) (hn : n < L.size) (hk : k < L.size) (hr : RelC cl n k) : TryI L n (k + 1) cl false := h.stay (.inl ((h.rel n k hn hk).1 hr))
theorem TryI.yes (h : TryI L n k cl false) (hn : n < L.size) (hk : k < L.size) (hr : ¬ RelC cl n k) (hab : (a = cl.getD n 0 ∧ b = cl.getD k 0) ∨ (a = cl.getD k 0 ∧ b = cl.getD n 0)) (hc : Closed L (unitedN cl a b) cl' true) : TryI L n (k + 1) cl' true := by
  have h1 := (closed_try h.len hn hk hab h.rel hc).1 rfl
  have h2 := try_yes (L := L) (E := mergeTo L n) (n := n) (k := k) h.off (fun x => hr ((h.rel n k hn hk).2 x)) h1.1
  have hci := (hc.1 rfl).1
  exact ⟨hci.len, hci.lt, fun i j hi hj => by rw [h2.1]; exact h1.2 i j hi hj, ⟨fun _ => h2.2, fun _ => rfl⟩⟩
theorem TryI.no (h : TryI L n k cl false) (hn : n < L.size) (hk : k < L.size) (hab : (a = cl.getD n 0 ∧ b = cl.getD k 0) ∨ (a = cl.getD k 0 ∧ b = cl.getD n 0)) (hc : Closed L (unitedN cl a b) cl' false) : TryI L n (k + 1) cl false :=
  h.stay (.inr ((closed_try h.len hn hk hab h.rel hc).2 rfl))
theorem TryI.finish (h : TryI L n k cl d) (hk : k ≤ n) (hd : k = n ∨ d = true) : MrgI L (n + 1) cl := by
  have e : mergeTo L (n + 1) = (tryTo L (mergeTo L n) n k).1 := by
    show (tryTo L (mergeTo L n) n n).1 = _
    rcases hd with hd | hd
    · rw [hd]
    · exact (try_all (h.flag.1 hd) n hk).1
  exact ⟨h.len, h.lt, fun i j hi hj => by rw [e]; exact h.rel i j hi hj⟩
theorem MrgI.quo (h : MrgI L L.size cl) (hL : L.Ok) : IsQuo L (final L) (build (quoM L cl)) := isQuo_cl hL h.lt final_good h.rel
end
/-- What Loose is said to return. -/
def LooseIs (m : Mly) (care : List (List Bool)) (ok : Bool) (X : Mly) : Prop := (ok = true → IsQuo (posM (careM m care)) (final (posM (careM m care))) X) ∧ (ok = false → X = zeroMly)
end Go.Proofs.Ytcmhginhfhiolaa
set_option linter.unusedVariables false
set_option linter.unusedSimpArgs false
namespace Go.Proofs.Ytcmhginhfhiolaa
open Go.RowKit Go.Shelf
attribute [local go_sem] cell_alloc_old

def moveV : Option (Int × Nat) → Value
  | some (o, t) => .tuple #[.int .i64 o, .int .i64 (t : Int), .bool true]
  | none => .tuple #[.int .i64 0, .int .i64 0, .bool false]
def MoveSays (r : Option (Int × Nat)) (w : World) (e : Ending) (w' : World) : Prop := e = .returned (moveV r) ∧ Below w.heap.size w w'

set_option maxRecDepth 100000 in
set_option maxHeartbeats 8000000 in
theorem rmove_any {D E F G : Dom} (v : Value) (m : Mly) (A : Option Addr) (ca : Nat) (care : List (List Bool)) (As : Option Addr) (cs : Nat) (Ac : Option Addr) (cc : Nat) (cl : List Nat) (c x : Nat) (w : World)
    (h : RdM w D v m) (hc : RdBB w E A ca care) (hst : RdI w F As cs (ordZ (careM m care))) (hcl : RdI w G Ac cc (natZ cl)) (hS : Sized m) (hcs : caresB m care = true)
    (hl : cl.length = (ord (careM m care)).length) (hx : (x : Int) < m.ins) :
    Calls Try.prog 63 #[v, .slice A care.length ca, .slice As (ordZ (careM m care)).length cs, .slice Ac cl.length cc, .int .i64 (c : Int), .int .i64 (x : Int)] w fun e w' => MoveSays (quoMv (posM (careM m care)) cl c x) w e w' := by
  have HC := hid hc.old
  have HST := hid hst.old
  have HCL := hid hcl.old
  have hcal := hc.len
  have hstl := hst.len
  have hcll := hcl.len
  have HS := hid hS
  obtain ⟨Ao, co, An, cn, rfl, ho, hn⟩ := h
  have HO := hid ho.old
  have HN := hid hn.old
  have hol := ho.len
  have hnl := hn.len
  have hi1 := hS.i1
  have hi2 := hS.i2
  obtain ⟨L, hL⟩ : ∃ L, L = posM (careM m care) := ⟨_, rfl⟩
  have hok : L.Ok := by rw [hL]; exact posM_ok (care_ok hS care)
  have hsz : (ordZ (careM m care)).length = L.size := by rw [hL, ordZ_nat, natZ_len]; rfl
  have hszn : (ord (careM m care)).length = L.size := by rw [hL]; rfl
  have hszb : L.size ≤ 3000 := by
    rw [hL]
    exact Nat.le_trans (ord_len (care_ok hS care)) hS.n2
  have HL := hid hL
  have HOK := hid hok
  have HSZ := hid hsz
  have HSN := hid hszn
  have hl1 : cl.length ≤ L.size := by rw [hl, hszn]; exact Nat.le_refl _
  have hl2 : L.size ≤ cl.length := by rw [hl, hszn]; exact Nat.le_refl _
  have HCS := hid (cares_shape hcs)
  clear ho hn hc hst hcl hS hL hok hl hszn hcs
  rw [hsz] at hstl ⊢
  clear hsz
  rw [natZ_len] at hcll
  rw [← HL.out]
  go_enter Try.func63, Try.ntmps63
  go_upto_region 1 with (fail)
  refine wp_gen fun W1 hW1 => ?_
  have hb1 : Below w.heap.size w W1 := by rw [hW1]; go_grown
  have hx1 : W1.heap[w.heap.size]? = some (.cells #[.int .i64 m.ins, .int .i64 m.outs, .int .i64 m.start, .slice Ao m.out.length co, .slice An m.next.length cn] 24 (0, 0)) := by
    rw [hW1]; (repeat (first | (refine at_new _ _ _ ?_; (simp only [World.size_alloc]; done)) | (refine (at_old _ _ _ ?_).trans ?_; (simp only [World.size_alloc]; omega))))
  have HBW := hid hb1
  have x3 := block_cell hx1 (i := 3) rfl
  have x4 := block_cell hx1 (i := 4) rfl
  clear hW1 hb1 hx1
  go_wp2_with fail
  go_loop [15] (fun t => ∃ k : Nat, k ≤ L.size ∧ t = .int .i64 (k : Int) ∧ SoFar k (fun j => !hasMv L cl c x j)) (fun t => L.size - (intOf t).toNat)
  case atStart => exact ⟨0, Nat.zero_le _, rfl, SoFar.zero _⟩
  case round =>
    obtain ⟨i, hi, rfl, hso⟩ := hrel
    have HSO := hid hso
    clear hso
    by_cases hil : i < L.size
    · have hil2 : (i : Int) < L.size := by omega
      have hil3 : i < (ordZ (careM m care)).length := by rw [HSZ.out]; exact hil
      have hioN : i < (ord (careM m care)).length := by rw [HSN.out]; exact hil
      obtain ⟨q, hq⟩ : ∃ q, (ord (careM m care)).getD i 0 = q := ⟨_, rfl⟩
      have hqs : q < m.out.length := by rw [← hq]; exact ord_lt (care_ok HS.out care) _ (getD_mem _ 0 hioN)
      obtain ⟨bs, os, hAs, -, _, hcells⟩ := (HST.out.keep (Keeps.of_below HBW.out fun _ h => h)).ptr (by omega)
      subst hAs
      have s1 := hcells i hil3
      rw [ordZ_nat, natZ_get _ hioN, hq] at s1
      obtain ⟨bc, oc, hAc, -, _, hccells⟩ := (HCL.out.keep (Keeps.of_below HBW.out fun _ h => h)).ptr (by rw [natZ_len]; omega)
      subst hAc
      have s2 := hccells i (by rw [natZ_len]; omega)
      rw [natZ_get _ (by omega)] at s2
      obtain ⟨ci, hci⟩ : ∃ ci, cl.getD i 0 = ci := ⟨_, rfl⟩
      rw [hci] at s2
      have HCIE := hid hci
      have HQ := hid hq
      have HCC := hid hccells
      clear hcells hccells hq hci
      have hicl : (i : Int) < cl.length := by omega
      by_cases hcc : ci = c
      · have e1 : ((ci : Int) == (c : Int)) = true := by rw [hcc]; simp
        have HCE := hid hcc
        clear hcc
        have hqc : q < care.length := by rw [HCS.out.1]; exact hqs
        obtain ⟨b1, o1, A1, c1, r1, hA1, _, _, HR1, hr1, hc1⟩ := (HC.out.keep (Keeps.of_below HBW.out fun _ h => h)).get hqc
        subst hA1
        have e2 := HCS.out.2 q hqc
        rw [HR1.out] at e2
        have hxr1 : x < r1.length := by omega
        obtain ⟨b5, o5, u1, hA5, _, _, HU1, hd1⟩ := hr1.get hxr1
        subst hA5
        have hqi : (q : Int) < care.length := by omega
        have hxi1 : (x : Int) < r1.length := by omega
        have m1 := hr1.len.1
        clear hr1 e2
        cases u1 with
        | false =>
          have hno : hasMv L cl c x i = false := by
            unfold hasMv
            rw [HL.out, pos_mv, HQ.out, HR1.out, HU1.out]; simp
          have HNO := hid hno
          clear hno
          go_wp2_with fail
          go_round
          case rel => exact ⟨i + 1, by omega, by go_num, HSO.out.succ (by rw [HNO.out]; rfl)⟩
          case measure => simp [intOf]; omega
        | true =>
          obtain ⟨b3, o3, A3, c3, r3, hA3, _, _, HR3, hr3, hc3⟩ := (HO.out.keep (Keeps.of_below HBW.out fun _ h => h)).get hqs
          subst hA3
          have hqn : q < m.next.length := by rw [HS.out.nn]; exact hqs
          obtain ⟨b7, o7, A7, c7, r7, hA7, _, _, HR7, hr7, hc7⟩ := (HN.out.keep (Keeps.of_below HBW.out fun _ h => h)).get hqn
          subst hA7
          have e3 := HS.out.outr q x hqs hx
          have e7 := HS.out.nextr q x hqs hx
          rw [HR3.out] at e3
          rw [HR7.out] at e7
          have hx3 : x < r3.length := by omega
          have hx7 : x < r7.length := by omega
          obtain ⟨b11, o11, y1, hA11, _, _, HY1, hf1⟩ := hr3.get hx3
          obtain ⟨b13, o13, z1, hA13, _, _, HZ1, hf3⟩ := hr7.get hx7
          subst hA11
          subst hA13
          have hcar1 : (care.getD ((ord (careM m care)).getD i 0) []).getD x false = true := by rw [HQ.out, HR1.out]; exact HU1.out
          have hid1 := pos_idx HS.out hioN (show x < m.ins.toNat by omega) hcar1
          have hmv1 : L.mv i x = some (y1, (ord (careM m care)).idxOf z1.toNat) := by
            rw [HL.out, pos_mv, if_pos hcar1, HQ.out, HR3.out, HY1.out, HR7.out, HZ1.out]
          rw [HQ.out, HR7.out, HZ1.out, HSN.out] at hid1
          obtain ⟨t1, ht1⟩ : ∃ t, t = (ord (careM m care)).idxOf z1.toNat := ⟨_, rfl⟩
          rw [← ht1] at hid1 hmv1
          have hT1 : t1 < L.size := hid1.2
          have HRST : Hid (∀ n, RdI (W1.drewN n) (fun b => b < w.heap.size) (some ⟨bs, os, none⟩) cs (ordZ (careM m care))) := hid fun n => (HST.out.keep (Keeps.of_below HBW.out fun _ h => h)).keep (Drawn.n W1 n).keeps
          have HI1 : Hid (∀ n, Calls Try.prog 34 #[.slice (some ⟨bs, os, none⟩) L.size cs, .int .i64 z1] (W1.drewN n) fun e w' => e = .returned (.int .i64 (t1 : Int)) ∧ w' = W1.drewN n) := hid fun n => by
            have := index_any (some ⟨bs, os, none⟩) cs (ordZ (careM m care)) z1 (W1.drewN n) (HRST.out n)
            rw [HSZ.out, ordZ_nat, hid1.1] at this
            exact this
          have g1 := HCC.out t1 (by rw [natZ_len]; omega)
          rw [natZ_get _ (by omega)] at g1
          have hquo := quoMv_at (L := L) (cl := cl) (c := c) (x := x) hil (fun j hj => by simpa using HSO.out j hj) (HCIE.out.trans HCE.out) hmv1
          obtain ⟨a1, ha1⟩ : ∃ a, cl.getD t1 0 = a := ⟨_, rfl⟩
          rw [ha1] at g1 hquo
          have HQU := hid hquo
          have hqio : (q : Int) < m.out.length := by omega
          have hqin : (q : Int) < m.next.length := by omega
          have hxi3 : (x : Int) < r3.length := by omega
          have hxi7 : (x : Int) < r7.length := by omega
          have hti1 : (t1 : Int) < cl.length := by omega
          have m3 := hr3.len.1
          have m7 := hr7.len.1
          clear hr3 hr7 e3 e7 hcar1 hid1 hmv1 ht1 ha1 hquo
          go_wp2_with fail
          go_quiet ((go_at_call 34; exact Calls.quiet_of_same (HI1.out _)))
          go_wp2_with fail
          refine bodyPost_ret (v := .tuple #[.int .i64 y1, .int .i64 (a1 : Int), .bool true]) (by simp [results, Try.results63, go_sem]) rfl ?_
          exact ⟨by rw [HQU.out]; rfl, below_drewN HBW.out _⟩
      · have e1 : ((ci : Int) == (c : Int)) = false := by simp; omega
        have hno : hasMv L cl c x i = false := by unfold hasMv; rw [HCIE.out, decide_eq_false hcc]; rfl
        have HNO := hid hno
        clear hno hcc
        go_wp2_with fail
        go_round
        case rel => exact ⟨i + 1, by omega, by go_num, HSO.out.succ (by rw [HNO.out]; rfl)⟩
        case measure => simp [intOf]; omega
    · have hnone := quoMv_none (L := L) (cl := cl) (c := c) (x := x) (fun j hj => by simpa using HSO.out j (by omega))
      have HNONE := hid hnone
      clear hnone
      go_wp2_with fail
      refine bodyPost_ret (v := .tuple #[.int .i64 0, .int .i64 0, .bool false]) (by simp [results, Try.results63, go_sem]) rfl ?_
      exact ⟨by rw [HNONE.out]; rfl, HBW.out⟩
end Go.Proofs.Ytcmhginhfhiolaa
set_option linter.unusedVariables false
set_option linter.unusedSimpArgs false
namespace Go.Proofs.Ytcmhginhfhiolaa
open Go.RowKit
attribute [local go_sem] cell_alloc_old

/-- Rows of ints from block B on. -/
def IBX (X : Dom) (wr : World) (B : Nat) : Dom := fun b => B ≤ b ∧ ¬ X b ∧ ∃ cs fr, wr.heap[b]? = some (.cells cs 3 fr)
/-- The values vs are the rows. -/
def RowsX (X : Dom) (wr : World) (B : Nat) (rows : List (List Int)) (vs : List Value) : Prop :=
  ∀ i, i < rows.length → ∃ A c, vs[i]? = some (.slice A (rows.getD i []).length c) ∧ RdI wr (IBX X wr B) A c (rows.getD i [])
theorem RowsX.nil (X : Dom) (wr : World) (B : Nat) (vs : List Value) : RowsX X wr B [] vs := fun _ h => absurd h (Nat.not_lt_zero _)
section
variable {X X' : Dom} {wr wr' : World} {B : Nat} {rows : List (List Int)} {vs : List Value}
theorem RowsX.keep (h : RowsX X wr B rows vs) (hk : Keeps (IBX X wr B) wr wr') (hX : ∀ k, k < wr.heap.size → X' k → X k) : RowsX X' wr' B rows vs := fun i hi => by
  obtain ⟨A, c, h1, h2⟩ := h i hi
  refine ⟨A, c, h1, (h2.keep hk).mono fun b hb _ => ?_⟩
  obtain ⟨hB, hx, cs, fr, hb⟩ := hb
  exact ⟨hB, fun hx' => hx (hX b (lt_of_block hb) hx'), cs, fr, (hk.block b ⟨hB, hx, cs, fr, hb⟩ (lt_of_block hb)).trans hb⟩
theorem RowsX.snoc (h : RowsX X wr B rows vs) (hl : vs.length = rows.length) {A : Option Addr} {c : Nat} {r : List Int} (hr : RdI wr (IBX X wr B) A c r) : RowsX X wr B (rows ++ [r]) (vs ++ [.slice A r.length c]) := fun i hi => by
  rw [List.length_append, List.length_singleton] at hi
  by_cases e : i < rows.length
  · obtain ⟨A', c', h1, h2⟩ := h i e
    have e1 : (rows ++ [r]).getD i [] = rows.getD i [] := by simp [List.getD, List.getElem?_append, e]
    rw [e1]
    refine ⟨A', c', ?_, h2⟩
    rw [List.getElem?_append, if_pos (by omega)]; exact h1
  · obtain rfl : i = rows.length := by omega
    have e1 : (rows ++ [r]).getD rows.length [] = r := by simp [List.getD, List.getElem?_append]
    rw [e1]
    refine ⟨A, c, ?_, hr⟩
    rw [List.getElem?_append, if_neg (by omega), hl, Nat.sub_self]; rfl
end

/-- The controller in block b. -/
structure MkX (X : Dom) (B : Nat) (wr : World) (b : Nat) (i o s : Int) (orows : List (List Int)) (Ao : Option Addr) (co : Nat) (vo : List Value) (nrows : List (List Int)) (An : Option Addr) (cn : Nat) (vn : List Value) : Prop where
  mly : wr.heap[b]? = some (.cells #[.int .i64 i, .int .i64 o, .int .i64 s, .slice Ao orows.length co, .slice An nrows.length cn] 24 (0, 0))
  oo : wr.ownsRow B 34 1 (.slice Ao orows.length co) orows.length vo
  on : wr.ownsRow B 34 1 (.slice An nrows.length cn) nrows.length vn
  ro : RowsX X wr B orows vo
  rn : RowsX X wr B nrows vn
  dis : ∀ b, some b = (Value.slice Ao orows.length co).ownBlock → some b ≠ (Value.slice An nrows.length cn).ownBlock
  xi : ∀ k, X k → ∃ cs fr, wr.heap[k]? = some (.cells cs 3 fr)
section
variable {X X' : Dom} {B : Nat} {wr w5 : World} {b : Nat} {i o s : Int} {orows nrows : List (List Int)} {Ao An A5 : Option Addr} {co cn c5 : Nat} {vo vn : List Value}
theorem MkX.xo (h : MkX X B wr b i o s orows Ao co vo nrows An cn vn) {k : Nat} (e : some k = (Value.slice Ao orows.length co).ownBlock) : ¬ X k := fun hx => by
  obtain ⟨cs, fr, hh⟩ := h.xi k hx
  exact own_ne h.oo hh (by decide) e.symm
theorem MkX.xn (h : MkX X B wr b i o s orows Ao co vo nrows An cn vn) {k : Nat} (e : some k = (Value.slice An nrows.length cn).ownBlock) : ¬ X k := fun hx => by
  obtain ⟨cs, fr, hh⟩ := h.xi k hx
  exact own_ne h.on hh (by decide) e.symm
theorem MkX.xb (h : MkX X B wr b i o s orows Ao co vo nrows An cn vn) : ¬ X b := fun hx => by
  obtain ⟨cs, fr, hh⟩ := h.xi b hx
  rw [h.mly] at hh
  injection hh with hh
  injection hh with _ hh
  exact absurd hh (by decide)
theorem MkX.xl (h : MkX X B wr b i o s orows Ao co vo nrows An cn vn) {k : Nat} (hx : X k) : k < wr.heap.size := by
  obtain ⟨cs, fr, hh⟩ := h.xi k hx
  exact lt_of_block hh
theorem MkX.after {wr' : World} (h : MkX X B wr b i o s orows Ao co vo nrows An cn vn) (hb : Keeps (fun k => (B ≤ k ∨ k = b) ∧ ¬ X k) wr wr') (hX : ∀ k, k < wr.heap.size → X' k → X k) (hxi : ∀ k, X' k → ∃ cs fr, wr'.heap[k]? = some (.cells cs 3 fr)) : MkX X' B wr' b i o s orows Ao co vo nrows An cn vn := by
  have hk : Keeps (IBX X wr B) wr wr' := hb.mono fun b h => ⟨.inl h.1, h.2.1⟩
  exact ⟨(hb.block _ ⟨.inr rfl, h.xb⟩ (lt_of_block h.mly)).trans h.mly, own_agree h.oo (fun k e => hb.block k ⟨.inl (h.oo.lt k e.symm).1, h.xo e⟩ (h.oo.lt k e.symm).2), own_agree h.on (fun k e => hb.block k ⟨.inl (h.on.lt k e.symm).1, h.xn e⟩ (h.on.lt k e.symm).2), h.ro.keep hk hX, h.rn.keep hk hX, h.dis, hxi⟩
theorem MkX.later {wr' : World} (h : MkX X B wr b i o s orows Ao co vo nrows An cn vn) (hb : Below wr.heap.size wr wr') : MkX X B wr' b i o s orows Ao co vo nrows An cn vn :=
  h.after ⟨hb.size, fun b _ hl => hb.block b hl⟩ (fun _ _ h => h) fun k hx => by
    obtain ⟨cs, fr, hh⟩ := h.xi k hx
    exact ⟨cs, fr, (hb.block k (lt_of_block hh)).trans hh⟩
/-- The row that is excluded grows. -/
theorem MkX.turn {v v' : Value} {n n' : Nat} {xs xs' : List Value} (h : MkX (fun k => some k = v.ownBlock) B wr b i o s orows Ao co vo nrows An cn vn) (hg : wr.grownBy w5 v.ownBlock) (ho : w5.ownsRow B 3 1 v' n' xs')
    (hat : v'.ownBlock = v.ownBlock ∨ v'.ownBlock = some wr.heap.size) : MkX (fun k => some k = v'.ownBlock) B w5 b i o s orows Ao co vo nrows An cn vn := by
  refine h.after ⟨hg.size, fun k hk hl => hg.block k hl hk.2⟩ (fun k hl e => ?_) fun k e => ?_
  · rcases hat with h1 | h1
    · rw [← h1]; exact e
    · rw [h1] at e
      injection e with e
      omega
  · rcases ho.2 with ⟨rfl, _⟩ | ⟨g, cap, cur, rfl, _, hh, _⟩
    · cases e
    · injection e with e
      subst e
      exact ⟨_, _, hh⟩
theorem MkX.cells (h : MkX X B wr b i o s orows Ao co vo nrows An cn vn) : wr.cell? ⟨b, 0, none⟩ = some (.int .i64 i) ∧ wr.cell? ⟨b, 1, none⟩ = some (.int .i64 o) ∧ wr.cell? ⟨b, 2, none⟩ = some (.int .i64 s) ∧
    wr.cell? ⟨b, 3, none⟩ = some (.slice Ao orows.length co) ∧ wr.cell? ⟨b, 4, none⟩ = some (.slice An nrows.length cn) ∧ b < wr.heap.size ∧
    wr.frozen? ⟨b, 3, none⟩ = false ∧ wr.frozen? ⟨b, 4, none⟩ = false :=
  ⟨block_cell h.mly rfl, block_cell h.mly rfl, block_cell h.mly rfl, block_cell h.mly rfl, block_cell h.mly rfl, lt_of_block h.mly, block_free h.mly, block_free h.mly⟩
/-- A row of rows grows, and a cell of the controller is set. -/
theorem MkX.grow {n : Nat} {v : Value} {xs : List Value} (h : MkX X B wr b i o s orows Ao co vo nrows An cn vn) (ho : wr.ownsRow B 34 1 v n xs) (hg : wr.grownBy w5 v.ownBlock) (j : Nat) (u : Value) :
    (∀ k, k ≠ b → k < wr.heap.size → some k ≠ v.ownBlock → (w5.setCell ⟨b, j, none⟩ u).heap[k]? = wr.heap[k]?) ∧ Chg (fun k => B ≤ k ∨ k = b) wr (w5.setCell ⟨b, j, none⟩ u) ∧ Keeps (IBX X wr B) wr (w5.setCell ⟨b, j, none⟩ u) ∧
      w5.heap[b]? = some (.cells #[.int .i64 i, .int .i64 o, .int .i64 s, .slice Ao orows.length co, .slice An nrows.length cn] 24 (0, 0)) := by
  have hs := lt_of_block h.mly
  have key : ∀ k, k ≠ b → k < wr.heap.size → some k ≠ v.ownBlock → (w5.setCell ⟨b, j, none⟩ u).heap[k]? = wr.heap[k]? := fun k h1 h2 h3 => by
    rw [Below.heap_setCell _ _ _ _ h1]
    exact hg.block k h2 h3
  have hsz : wr.heap.size ≤ (w5.setCell ⟨b, j, none⟩ u).heap.size := by simpa using hg.size
  refine ⟨key, ((Chg.refl _ wr).grown hg (fun k e _ => .inl (ho.lt k e).1)).set _ _ (fun _ => .inr rfl), ⟨hsz, fun k hk hl => ?_⟩,
    (hg.block _ hs (fun e => own_ne ho h.mly (by decide) e.symm)).trans h.mly⟩
  obtain ⟨-, -, ds, fr, hk⟩ := hk
  refine key k (fun e => ?_) hl (fun e => own_ne ho hk (by decide) e.symm)
  subst e
  rw [h.mly] at hk
  injection hk with hk
  injection hk with _ hk
  exact absurd hk (by decide)
theorem IBX.keep {wr' : World} (hk : Keeps (IBX X wr B) wr wr') {Ar : Option Addr} {cr : Nat} {r : List Int} (hr : RdI wr (IBX X wr B) Ar cr r) : RdI wr' (IBX X wr' B) Ar cr r := (hr.keep hk).mono fun b' hb' _ => by
  obtain ⟨h1, h0, ds, fr, hb'⟩ := hb'
  exact ⟨h1, h0, ds, fr, (hk.block b' ⟨h1, h0, ds, fr, hb'⟩ (lt_of_block hb')).trans hb'⟩
theorem MkX.next (h : MkX X B wr b i o s orows Ao co vo nrows An cn vn) {Ar : Option Addr} {cr : Nat} {r : List Int} (hr : RdI wr (IBX X wr B) Ar cr r) (hg : wr.grownBy w5 (Value.slice An nrows.length cn).ownBlock)
    (hown : w5.ownsRow B 34 1 (.slice A5 (nrows.length + 1) c5) (nrows.length + 1) (vn ++ [.slice Ar r.length cr]))
    (hat : (Value.slice A5 (nrows.length + 1) c5).ownBlock = (Value.slice An nrows.length cn).ownBlock ∨ (Value.slice A5 (nrows.length + 1) c5).ownBlock = some wr.heap.size) :
    MkX X B (w5.setCell ⟨b, 4, none⟩ (.slice A5 (nrows.length + 1) c5)) b i o s orows Ao co vo (nrows ++ [r]) A5 c5 (vn ++ [.slice Ar r.length cr]) := by
  have hl : (nrows ++ [r]).length = nrows.length + 1 := by simp
  obtain ⟨key, -, hk, hc⟩ := h.grow h.on hg 4 (.slice A5 (nrows.length + 1) c5)
  have hlen : vn.length = nrows.length := by have := h.on.1; simpa using this
  refine ⟨by rw [hl]; exact set_block hc _, own_agree h.oo fun k e => key k (fun x => own_ne h.oo h.mly (by decide) (by rw [← e, x])) (h.oo.lt k e.symm).2 (h.dis k e), ?_, h.ro.keep hk (fun _ _ h => h), (h.rn.keep hk (fun _ _ h => h)).snoc hlen (IBX.keep hk hr), fun k e => ?_, fun k hx => ?_⟩
  · rw [hl]
    exact ownsRow_setCell_other hown (own_ne hown hc (by decide)) _
  · rw [hl]
    rcases hat with h1 | h1
    · rw [h1]; exact h.dis k e
    · rw [h1]
      intro e2
      injection e2 with e2
      have := (h.oo.lt k e.symm).2
      omega
  · obtain ⟨cs, fr, hh⟩ := h.xi k hx
    exact ⟨cs, fr, (key k (fun e => h.xb (e ▸ hx)) (lt_of_block hh) (fun e => h.xn e hx)).trans hh⟩
theorem MkX.outr (h : MkX X B wr b i o s orows Ao co vo nrows An cn vn) {Ar : Option Addr} {cr : Nat} {r : List Int} (hr : RdI wr (IBX X wr B) Ar cr r) (hg : wr.grownBy w5 (Value.slice Ao orows.length co).ownBlock)
    (hown : w5.ownsRow B 34 1 (.slice A5 (orows.length + 1) c5) (orows.length + 1) (vo ++ [.slice Ar r.length cr]))
    (hat : (Value.slice A5 (orows.length + 1) c5).ownBlock = (Value.slice Ao orows.length co).ownBlock ∨ (Value.slice A5 (orows.length + 1) c5).ownBlock = some wr.heap.size) :
    MkX X B (w5.setCell ⟨b, 3, none⟩ (.slice A5 (orows.length + 1) c5)) b i o s (orows ++ [r]) A5 c5 (vo ++ [.slice Ar r.length cr]) nrows An cn vn := by
  have hl : (orows ++ [r]).length = orows.length + 1 := by simp
  obtain ⟨key, -, hk, hc⟩ := h.grow h.oo hg 3 (.slice A5 (orows.length + 1) c5)
  have hlen : vo.length = orows.length := by have := h.oo.1; simpa using this
  refine ⟨by rw [hl]; exact set_block hc _, ?_, own_agree h.on fun k e => key k (fun x => own_ne h.on h.mly (by decide) (by rw [← e, x])) (h.on.lt k e.symm).2 (fun e2 => h.dis k e2 e), (h.ro.keep hk (fun _ _ h => h)).snoc hlen (IBX.keep hk hr), h.rn.keep hk (fun _ _ h => h), fun k e => ?_, fun k hx => ?_⟩
  · rw [hl]
    exact ownsRow_setCell_other hown (own_ne hown hc (by decide)) _
  · rw [hl] at e
    rcases hat with h1 | h1
    · rw [h1] at e; exact h.dis k e
    · rw [h1] at e
      injection e with e
      intro e2
      have := (h.on.lt k e2.symm).2
      omega
  · obtain ⟨cs, fr, hh⟩ := h.xi k hx
    exact ⟨cs, fr, (key k (fun e => h.xb (e ▸ hx)) (lt_of_block hh) (fun e => h.xo e hx)).trans hh⟩
/-- It reads as the controller. -/
theorem MkX.reads (h : MkX X B wr b i o s orows Ao co vo nrows An cn vn) (h1 : orows.length ≤ 140737488355328) (h2 : nrows.length ≤ 140737488355328) : RdM wr (fun b => B ≤ b) (.agg #[.int .i64 i, .int .i64 o, .int .i64 s, .slice Ao orows.length co, .slice An nrows.length cn]) ⟨i, o, s, orows, nrows⟩ := by
  refine ⟨Ao, co, An, cn, rfl, ⟨vo, Rd.own h.oo h1 (fun _ h => h), fun i hi => ?_⟩, ⟨vn, Rd.own h.on h2 (fun _ h => h), fun i hi => ?_⟩⟩
  · obtain ⟨A, c, e, hr⟩ := h.ro i hi
    exact ⟨A, c, e, hr.mono fun _ h _ => h.1⟩
  · obtain ⟨A, c, e, hr⟩ := h.rn i hi
    exact ⟨A, c, e, hr.mono fun _ h _ => h.1⟩
/-- A row of ints of the call's own. -/
theorem IBX.own {B' : Nat} {A : Option Addr} {n c : Nat} {xs : List Int} (h : B ≤ B') (hX : ∀ k, some k = (Value.slice A n c).ownBlock → ¬ X k) (ho : wr.ownsRow B' 3 1 (.slice A n c) n (xs.map (.int .i64))) (hn : n = xs.length) (hm : n ≤ 140737488355328) : RdI wr (IBX X wr B) A c xs := by
  subst hn
  have h1 := Rd.own (D := fun b => B' ≤ b) ho hm (fun _ h => h)
  refine ⟨h1.1, fun hp => ?_⟩
  obtain ⟨b, o, e, hb, hl, hc⟩ := h1.2 hp
  refine ⟨b, o, e, ⟨Nat.le_trans h hb, ?_⟩, hl, hc⟩
  subst e
  refine ⟨hX b rfl, ?_⟩
  rcases ho.2 with ⟨hv, h0⟩ | ⟨g, cap, cur, hv, _, hh, _⟩
  · injection hv with hv
    cases hv
  · injection hv with hv
    injection hv with hv
    injection hv with hv
    subst hv
    exact ⟨_, _, hh⟩
end
end Go.Proofs.Ytcmhginhfhiolaa
set_option linter.unusedVariables false
set_option linter.unusedSimpArgs false
namespace Go.Proofs.Ytcmhginhfhiolaa
open Go.RowKit Go.Shelf
attribute [local go_sem] cell_alloc_old

theorem idxOf_pre {l m : List Nat} (h : l <+: m) {t : Nat} (ht : t ∈ l) : m.idxOf t = l.idxOf t := by
  obtain ⟨r, rfl⟩ := h
  rw [List.idxOf_append, if_pos ht]
theorem idxOf_snoc {l : List Nat} {t : Nat} (h : t ∉ l) : (l ++ [t]).idxOf t = l.length := by
  rw [List.idxOf_append, if_neg h]; simp
theorem bOut_take (M : Mac) (q : Nat) {x : Nat} (h : x < M.ins) : (bOut M q).take (x + 1) = (bOut M q).take x ++ [(bOut M q).getD x 0] := take_succ_getD _ 0 (by simp [bOut]; exact h)

/-- Three rows that grow: the order, and the outputs and targets of one state, which are younger than wz. -/
structure Nm (B : Nat) (wz wr : World) (v0 : Value) (l : List Nat) (A : Option Addr) (c : Nat) (o : List Int) (A2 : Option Addr) (c2 : Nat) (n : List Int) (A3 : Option Addr) (c3 : Nat) : Prop where
  ord : wr.ownsRow B 3 1 (.slice A l.length c) l.length (l.map fun q : Nat => Value.int .i64 q)
  outs : wr.ownsRow wz.heap.size 3 1 (.slice A2 o.length c2) o.length (o.map (.int .i64))
  next : wr.ownsRow wz.heap.size 3 1 (.slice A3 n.length c3) n.length (n.map (.int .i64))
  d12 : ∀ b, some b = (Value.slice A l.length c).ownBlock → some b ≠ (Value.slice A2 o.length c2).ownBlock
  d13 : ∀ b, some b = (Value.slice A l.length c).ownBlock → some b ≠ (Value.slice A3 n.length c3).ownBlock
  d23 : ∀ b, some b = (Value.slice A2 o.length c2).ownBlock → some b ≠ (Value.slice A3 n.length c3).ownBlock
  at' : ∀ b, some b = (Value.slice A l.length c).ownBlock → some b = v0.ownBlock ∨ wz.heap.size ≤ b
  chg : Chg (fun k => some k = v0.ownBlock ∨ wz.heap.size ≤ k) wz wr
section
variable {B : Nat} {wz wr w5 : World} {v0 : Value} {l : List Nat} {A A2 A3 A5 : Option Addr} {c c2 c3 c5 : Nat} {o n : List Int}
theorem Nm.init (h : wz.ownsRow B 3 1 (.slice A l.length c) l.length (l.map fun q : Nat => Value.int .i64 q)) : Nm B wz wz (.slice A l.length c) l A c [] none 0 [] none 0 :=
  ⟨h, ⟨rfl, .inl ⟨rfl, rfl⟩⟩, ⟨rfl, .inl ⟨rfl, rfl⟩⟩, (fun b _ h => by cases h), (fun b _ h => by cases h), (fun b h => by cases h), (fun b h => .inl h), Chg.refl _ _⟩
theorem Nm.later (h : Nm B wz wr v0 l A c o A2 c2 n A3 c3) (hb : Below wr.heap.size wr w5) : Nm B wz w5 v0 l A c o A2 c2 n A3 c3 :=
  ⟨own_below h.ord hb, own_below h.outs hb, own_below h.next hb, h.d12, h.d13, h.d23, h.at', h.chg.trans (Chg.of_new hb)⟩
theorem Nm.push1 (h : Nm B wz wr v0 l A c o A2 c2 n A3 c3) (hg : wr.grownBy w5 (Value.slice A l.length c).ownBlock) {t : Nat}
    (hown : w5.ownsRow B 3 1 (.slice A5 (l.length + 1) c5) (l.length + 1) ((l ++ [t]).map fun q : Nat => Value.int .i64 q))
    (hat : (Value.slice A5 (l.length + 1) c5).ownBlock = (Value.slice A l.length c).ownBlock ∨ (Value.slice A5 (l.length + 1) c5).ownBlock = some wr.heap.size) : Nm B wz w5 v0 (l ++ [t]) A5 c5 o A2 c2 n A3 c3 := by
  have hl : (l ++ [t]).length = l.length + 1 := by simp
  have hsz := h.chg.size
  have hnew : ∀ (e : TypeId) (v : Value) (m : Nat) (xs : List Value) (base : Nat), wr.ownsRow base e 1 v m xs → (∀ b, some b = (Value.slice A l.length c).ownBlock → some b ≠ v.ownBlock) → ∀ b, some b = (Value.slice A5 (l.length + 1) c5).ownBlock → some b ≠ v.ownBlock := fun e v m xs base ho hd b hb hb2 => by
    rcases hat with h1 | h1
    · exact hd b (hb.trans h1) hb2
    · rw [h1] at hb
      injection hb with hb
      have := (ho.lt b hb2.symm).2
      omega
  refine ⟨by rw [hl]; exact hown, own_agree h.outs fun b e => hg.block b (h.outs.lt b e.symm).2 (fun e2 => h.d12 b e2 e), own_agree h.next fun b e => hg.block b (h.next.lt b e.symm).2 (fun e2 => h.d13 b e2 e), ?_, ?_, h.d23, ?_, h.chg.grown hg fun k e hk => ?_⟩
  · rw [hl]; exact hnew _ _ _ _ _ h.outs h.d12
  · rw [hl]; exact hnew _ _ _ _ _ h.next h.d13
  · rw [hl]
    intro b hb
    rcases hat with h1 | h1
    · exact h.at' b (hb.trans h1)
    · rw [h1] at hb
      injection hb with hb
      exact .inr (by omega)
  · rcases h.at' k e.symm with h1 | h1
    · exact .inl h1
    · exact .inr h1
theorem Nm.push2 (h : Nm B wz wr v0 l A c o A2 c2 n A3 c3) (hg : wr.grownBy w5 (Value.slice A2 o.length c2).ownBlock) {z : Int}
    (hown : w5.ownsRow wz.heap.size 3 1 (.slice A5 (o.length + 1) c5) (o.length + 1) ((o ++ [z]).map (.int .i64)))
    (hat : (Value.slice A5 (o.length + 1) c5).ownBlock = (Value.slice A2 o.length c2).ownBlock ∨ (Value.slice A5 (o.length + 1) c5).ownBlock = some wr.heap.size) : Nm B wz w5 v0 l A c (o ++ [z]) A5 c5 n A3 c3 := by
  have hl : (o ++ [z]).length = o.length + 1 := by simp
  have hsz := h.chg.size
  refine ⟨own_agree h.ord fun b e => hg.block b (h.ord.lt b e.symm).2 (fun e2 => h.d12 b e e2), by rw [hl]; exact hown, own_agree h.next fun b e => hg.block b (h.next.lt b e.symm).2 (fun e2 => h.d23 b e2 e), ?_, h.d13, ?_, h.at', h.chg.grown hg fun k e hk => .inr (h.outs.lt k e).1⟩
  · rw [hl]
    intro b hb hb2
    rcases hat with h1 | h1
    · exact h.d12 b hb (hb2.trans h1)
    · rw [h1] at hb2
      injection hb2 with hb2
      have := (h.ord.lt b hb.symm).2
      omega
  · rw [hl]
    intro b hb hb2
    rcases hat with h1 | h1
    · exact h.d23 b (hb.trans h1) hb2
    · rw [h1] at hb
      injection hb with hb
      have := (h.next.lt b hb2.symm).2
      omega
theorem Nm.push3 (h : Nm B wz wr v0 l A c o A2 c2 n A3 c3) (hg : wr.grownBy w5 (Value.slice A3 n.length c3).ownBlock) {z : Int}
    (hown : w5.ownsRow wz.heap.size 3 1 (.slice A5 (n.length + 1) c5) (n.length + 1) ((n ++ [z]).map (.int .i64)))
    (hat : (Value.slice A5 (n.length + 1) c5).ownBlock = (Value.slice A3 n.length c3).ownBlock ∨ (Value.slice A5 (n.length + 1) c5).ownBlock = some wr.heap.size) : Nm B wz w5 v0 l A c o A2 c2 (n ++ [z]) A5 c5 := by
  have hl : (n ++ [z]).length = n.length + 1 := by simp
  have hsz := h.chg.size
  refine ⟨own_agree h.ord fun b e => hg.block b (h.ord.lt b e.symm).2 (fun e2 => h.d13 b e e2), own_agree h.outs fun b e => hg.block b (h.outs.lt b e.symm).2 (fun e2 => h.d23 b e e2), by rw [hl]; exact hown, h.d12, ?_, ?_, h.at', h.chg.grown hg fun k e hk => .inr (h.next.lt k e).1⟩
  · rw [hl]
    intro b hb hb2
    rcases hat with h1 | h1
    · exact h.d13 b hb (hb2.trans h1)
    · rw [h1] at hb2
      injection hb2 with hb2
      have := (h.ord.lt b hb.symm).2
      omega
  · rw [hl]
    intro b hb hb2
    rcases hat with h1 | h1
    · exact h.d23 b hb (hb2.trans h1)
    · rw [h1] at hb2
      injection hb2 with hb2
      have := (h.outs.lt b hb.symm).2
      omega
/-- The rows are done: the controller beside the order. -/
theorem Nm.done {b : Nat} {i o1 s : Int} {orows nrows : List (List Int)} {Ao An : Option Addr} {co cn : Nat} {vo vn : List Value} (h : Nm B wz wr v0 l A c o A2 c2 n A3 c3)
    (hK : MkX (fun k => some k = v0.ownBlock) B wz b i o1 s orows Ao co vo nrows An cn vn) : MkX (fun k => some k = (Value.slice A l.length c).ownBlock) B wr b i o1 s orows Ao co vo nrows An cn vn := by
  refine hK.after ⟨h.chg.size, fun k hk hl => h.chg.block k hl (fun e => ?_)⟩ (fun k hl e => ?_) fun k e => ?_
  · rcases e with e | e
    · exact hk.2 e
    · omega
  · rcases h.at' k e with h1 | h1
    · exact h1
    · omega
  · rcases h.ord.2 with ⟨hv, _⟩ | ⟨g, cap, cur, hv, _, hh, _⟩
    · rw [hv] at e; cases e
    · rw [hv] at e
      injection e with e
      subst e
      exact ⟨_, _, hh⟩
end
end Go.Proofs.Ytcmhginhfhiolaa
