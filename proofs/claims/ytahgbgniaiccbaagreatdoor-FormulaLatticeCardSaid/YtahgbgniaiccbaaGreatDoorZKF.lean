/-
  Walk of And; what And, Or, Canon and low tell of values.
-/
import Derived.Test.YtahgbgniaiccbaaGreatDoorZKE
import Derived.Test.YtahgbgniaiccbaaGreatDoorZLT
set_option linter.unusedVariables false
set_option linter.unusedSimpArgs false
namespace Go.Proofs.YtahgbgniaiccbaaGreatDoor
open Go.RowKit Go.Shelf
attribute [local go_sem] cell_alloc_old

set_option maxRecDepth 100000 in
set_option maxHeartbeats 2000000 in
theorem and_any {D : Dom} {w : World} {A : Option Addr} {n c : Nat} {l : List Fm} (h : RdA w D l A c) (hn : n = l.length) (hz : sizes l ≤ 1000000) (hg : GF w) (hk : GK w) :
    Calls Tryz.prog 7 #[.slice A n c] w fun e w' => ∃ v, e = .returned v ∧ NewF (connZ 5 l) w v w' := by
  subst hn
  have HL := hid h.old
  have HG := hid hg
  have HK := hid hk
  clear h hg hk
  obtain ⟨g, hgg⟩ : ∃ g, connZ 5 l = g := ⟨_, rfl⟩
  have HGG := hid hgg
  rw [hgg]
  clear hgg
  go_enter Tryz.func7, Tryz.ntmps7
  go_upto_region 1 with (fail)
  refine wp_gen fun W hW => ?_
  have HB := hid (show Below w.heap.size w W by rw [hW]; go_grown)
  have HR := hid (show OB W w.heap.size 0 ⟨#[]⟩ 0 0 none 0 0 by rw [hW]; exact at_new _ _ _ rfl)
  have HWS := hid (show W.heap.size = w.heap.size + 1 by rw [hW]; simp)
  have HC := hid (connect_any (op := 5) (HL.out.keep (Keeps.of_below HB.out fun _ h => h)) rfl (.inl rfl) hz (HG.out.below HB.out HG.out.pos) (HK.out.below HB.out HK.out.pos))
  clear hW
  rw [HGG.out] at HC
  go_wp2_with (go_at_call 32; (with_reducible refine HC.out.mono ?_); rintro e w5 ⟨v, rfl, hb5, A5, c5, rfl, ha5⟩; have HA5 := hid ha5; have HB5 := hid hb5; clear ha5; have hr := HR.out.below hb5; obtain ⟨r0, r1, r2, r3, r4, rl⟩ := hr.cells; have p0 := hr.free 0; have p1 := hr.free 1; have p2 := hr.free 2; have p3 := hr.free 3; have p4 := hr.free 4)
  refine bodyPost_gen fun WE hWE => ?_
  have hoE : OB WE w.heap.size g.op g.name g.val g.bound A5 g.args.length c5 := by rw [hWE]; exact set5_OB hr
  have hcE : Chg (fun x => x = w.heap.size) w5 WE := by rw [hWE]; exact set5_chg0 _ _ _ _ _ _ _
  have hb5w := HB.out.trans (HB5.out.mono HB.out.size)
  have hbE : Below w.heap.size w WE := hb5w.trans (hcE.below (B := w.heap.size) (fun x hx h => by omega) hb5w.size)
  have hnew : NewF g w (.agg #[.int .i64 g.op, .string g.name, .int .i64 g.val, .int .i64 g.bound, .slice A5 g.args.length c5]) WE :=
    ⟨hbE, A5, c5, rfl, (HA5.out.nw hcE fun x h => by have : x = w.heap.size := h; have := HWS.out; omega).base HB.out.size⟩
  obtain ⟨y0, y1, y2, y3, y4, yl⟩ := hoE.cells
  clear hWE r0 r1 r2 r3 r4 p0 p1 p2 p3 p4
  exact bodyPost_ret (v := .agg #[.int .i64 g.op, .string g.name, .int .i64 g.val, .int .i64 g.bound, .slice A5 g.args.length c5]) (by simp [results, Tryz.results7, go_sem, y0, y1, y2, y3, y4]) rfl ⟨_, rfl, hnew⟩
section
variable {w w' : World} {o : Int} {n : ByteArray} {v b : Int} {A : Option Addr} {k c : Nat} {f : Fm}
theorem canon_litc (g : Fm) (hz : canonicalZ f = g) (h : VF w o n v b A k c f) (hg : GF w) (hk : GK w) :
    Calls Tryz.prog 6 #[.agg #[.int .i64 o, .string n, .int .i64 v, .int .i64 b, .slice A k c]] w fun e w' => ∃ A' c', e = .returned (.agg #[.int .i64 g.op, .string g.name, .int .i64 g.val, .int .i64 g.bound, .slice A' g.args.length c']) ∧ VC w' g.op g.name g.val g.bound A' g.args.length c' g ∧ Below w.heap.size w w' :=
  (canonical_any f _ w h.rd hg hk).mono fun e w' ⟨x, e1, h1⟩ => by
    rw [hz] at h1
    obtain ⟨A', c', e2, h2⟩ := h1.litc rfl
    exact ⟨A', c', by rw [e1, e2], h2⟩
theorem and_litc (g : Fm) {l : List Fm} (hz : connZ 5 l = g) (h : RdA w AnyD l A c) (hl : k = l.length) (hs : sizes l ≤ 1000000) (hg : GF w) (hk : GK w) :
    Calls Tryz.prog 7 #[.slice A k c] w fun e w' => ∃ A' c', e = .returned (.agg #[.int .i64 g.op, .string g.name, .int .i64 g.val, .int .i64 g.bound, .slice A' g.args.length c']) ∧ VC w' g.op g.name g.val g.bound A' g.args.length c' g ∧ Below w.heap.size w w' :=
  (and_any h hl hs hg hk).mono fun e w' ⟨x, e1, h1⟩ => by
    rw [hz] at h1
    obtain ⟨A', c', e2, h2⟩ := h1.litc rfl
    exact ⟨A', c', by rw [e1, e2], h2⟩
theorem or_litc (g : Fm) {l : List Fm} (hz : connZ 6 l = g) (h : RdA w AnyD l A c) (hl : k = l.length) (hs : sizes l ≤ 1000000) (hg : GF w) (hk : GK w) :
    Calls Tryz.prog 9 #[.slice A k c] w fun e w' => ∃ A' c', e = .returned (.agg #[.int .i64 g.op, .string g.name, .int .i64 g.val, .int .i64 g.bound, .slice A' g.args.length c']) ∧ VC w' g.op g.name g.val g.bound A' g.args.length c' g ∧ Below w.heap.size w w' :=
  (or_any h hl hs hg hk).mono fun e w' ⟨x, e1, h1⟩ => by
    rw [hz] at h1
    obtain ⟨A', c', e2, h2⟩ := h1.litc rfl
    exact ⟨A', c', by rw [e1, e2], h2⟩
theorem looseR_B (f : Fm) : looseR f = looseB f := by rw [looseB_ref]; rfl
theorem lowR_B (f : Fm) : lowR f = lowB f := by unfold lowR lowB; rw [looseR_B]
theorem low_lit (r : Bool) (hr : lowB f = r) (h : VF w o n v b A k c f) :
    Calls Tryz.prog 5 #[.agg #[.int .i64 o, .string n, .int .i64 v, .int .i64 b, .slice A k c]] w fun e w' => e = .returned (.bool r) ∧ Below w.heap.size w w' := by
  have := low_any f _ w h.rd
  rwa [lowR_B, hr] at this
theorem sl2_of {u' : World} {o2 : Int} {n2 : ByteArray} {v2 b2 : Int} {A2 : Option Addr} {k2 c2 : Nat} {f2 : Fm} {cur : World} (hb : Below cur.heap.size cur u') {kb : Nat} (h : VF cur o n v b A k c f) (h2 : VF cur o2 n2 v2 b2 A2 k2 c2 f2) (hk : cur.heap[kb]? = some (.cells #[.int .i64 o, .string n, .int .i64 v, .int .i64 b, .slice A k c, .int .i64 o2, .string n2, .int .i64 v2, .int .i64 b2, .slice A2 k2 c2] 24 (0, 0))) : RdA u' AnyD [f, f2] (some ⟨kb, 0, none⟩) 2 := (lit_slice2 h h2 hk).any hb
theorem sl2_ofd {u' : World} {o2 : Int} {n2 : ByteArray} {v2 b2 : Int} {A2 : Option Addr} {k2 c2 : Nat} {f2 : Fm} {cur : World} (hb : Below (World.drew cur).heap.size (World.drew cur) u') {kb : Nat} (h : VF cur o n v b A k c f) (h2 : VF cur o2 n2 v2 b2 A2 k2 c2 f2) (hk : cur.heap[kb]? = some (.cells #[.int .i64 o, .string n, .int .i64 v, .int .i64 b, .slice A k c, .int .i64 o2, .string n2, .int .i64 v2, .int .i64 b2, .slice A2 k2 c2] 24 (0, 0))) : RdA u' AnyD [f, f2] (some ⟨kb, 0, none⟩) 2 := sl2_of (cur := cur) ⟨hb.os, hb.tape, hb.output, hb.size, hb.block⟩ h h2 hk
end
theorem connZ_size (op : Int) (l : List Fm) : (connZ op l).size ≤ 1000000 := by
  unfold connZ
  split
  · split
    · rename_i h
      have := (loose_out h).1
      omega
    · decide
  · decide
theorem canonicalZ_size (f : Fm) : (canonicalZ f).size ≤ 1000000 := by
  unfold canonicalZ
  split
  · rename_i h
    have := (loose_out h).1
    have := canonZ_size f
    omega
  · decide
end Go.Proofs.YtahgbgniaiccbaaGreatDoor
