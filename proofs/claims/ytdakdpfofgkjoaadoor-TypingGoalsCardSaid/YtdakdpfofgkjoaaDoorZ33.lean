/-
  Walk of typing.rules: three closures over a specification.
  Walk of the closures of typing.rules.
-/
import Derived.Test.YtdakdpfofgkjoaaDoorZ32
import Derived.Test.YtdakdpfofgkjoaaDoorZ30
set_option linter.unusedVariables false
set_option linter.unusedSimpArgs false
namespace Go.Proofs.YtdakdpfofgkjoaaDoor
open Go.RowKit Go.Shelf
attribute [local go_sem] cell_alloc_old run_store_func

/-- What rules lays: a list of three closures over the pointer in pb, and the map in fb. -/
structure RulesAt (w : World) (rb pb fb mb sb : Nat) (L : List ByteArray) : Prop where
  rb : w.heap[rb]? = some (.cells #[.func (.func 40) #[] #[.pointer (some ⟨pb, 0, none⟩)], .func (.func 41) #[] #[.pointer (some ⟨fb, 0, none⟩), .pointer (some ⟨pb, 0, none⟩)], .func (.func 42) #[] #[.pointer (some ⟨pb, 0, none⟩)]] 65 (0, 0))
  pb : w.heap[pb]? = some (.cells #[.pointer (some ⟨sb, 0, none⟩)] 62 (0, 0))
  fb : w.heap[fb]? = some (.cells #[.map (some mb)] 80 (0, 0))
  map : FirstM w mb L L.length
theorem RulesAt.below {w w' : World} {rb pb fb mb sb : Nat} {L : List ByteArray} (h : RulesAt w rb pb fb mb sb L) (hb : Below w.heap.size w w') : RulesAt w' rb pb fb mb sb L :=
  ⟨(hb.block _ (lt_of_block h.rb)).trans h.rb, (hb.block _ (lt_of_block h.pb)).trans h.pb, (hb.block _ (lt_of_block h.fb)).trans h.fb, h.map.of_block (hb.block _ h.map.lt)⟩
theorem build_rule (fn : Fn) (a b : Array Value) (w : World) : (Instr.build 65 #[(0, .func fn a b)]).run Tryd.prog w = .ok (.agg #[.func fn a b]) w := run_build w 65 _ _ (by kernel_rfl)
attribute [local go_sem] build_rule
/-- The block of a specification. -/
def SpecAt (w : World) (sb : Nat) (AS : Option Addr) (n cS : Nat) (AR : Option Addr) (m cR : Nat) : Prop := w.heap[sb]? = some (.cells #[.slice AS n cS, .slice AR m cR] 36 (0, 0))
theorem SpecAt.below {w w' : World} {sb n cS m cR : Nat} {AS AR : Option Addr} (h : SpecAt w sb AS n cS AR m cR) (hb : Below w.heap.size w w') : SpecAt w' sb AS n cS AR m cR := (hb.block _ (lt_of_block h)).trans h
theorem SpecAt.chg {w w' : World} {sb n cS m cR : Nat} {AS AR : Option Addr} {V : Dom} (h : SpecAt w sb AS n cS AR m cR) (hc : Chg V w w') (hv : ¬ V sb) : SpecAt w' sb AS n cS AR m cR := hc.box h hv
theorem SpecAt.cells {w : World} {sb n cS m cR : Nat} {AS AR : Option Addr} (h : SpecAt w sb AS n cS AR m cR) : w.cell? ⟨sb, 0, none⟩ = some (.slice AS n cS) ∧ w.cell? ⟨sb, 1, none⟩ = some (.slice AR m cR) ∧ sb < w.heap.size :=
  ⟨block_cell h (i := 0) rfl, block_cell h (i := 1) rfl, lt_of_block h⟩
set_option maxRecDepth 100000 in
set_option maxHeartbeats 4000000 in
theorem rules_any {E : Dom} (rs : List Rq) (sb : Nat) (AS : Option Addr) (n cS : Nat) (AR : Option Addr) (m cR : Nat) (w : World) (hs : SpecAt w sb AS n cS AR m cR) (hm : m = rs.length) (hr : RdR w E AR cR rs) :
    Calls Tryd.prog 27 #[.pointer (some ⟨sb, 0, none⟩)] w fun e w' => ∃ rb pb fb mb, e = .returned (.slice (some ⟨rb, 0, none⟩) 3 3) ∧ RulesAt w' rb pb fb mb sb (rqNames rs) ∧ Below w.heap.size w w' := by
  subst hm
  have hmf : ∀ (fn : Fn) (first cap : Array Value) (w : World), (Instr.makeFunc fn first cap).run Tryd.prog w = .ok (.func fn first cap) w := fun _ _ _ _ => rfl
  have hmm := @run_makeMap Tryd.prog
  have HR := hid hr.old
  have HS := hid hs
  have hlen := hr.len.1
  have hsl := lt_of_block hs
  clear hs hr
  go_enter Tryd.func27, Tryd.ntmps27
  go_upto_region 2 with (fail)
  refine wp_gen fun W hW => ?_
  clear hmm
  have hb : Below w.heap.size w W := by rw [hW]; go_grown
  have e0 : W.heap[w.heap.size]? = some (.cells #[.pointer (some ⟨sb, 0, none⟩)] 62 (0, 0)) := by rw [hW, at_old _ _ _ (by simp; omega), at_old _ _ _ (by simp)]; exact at_new _ _ _ rfl
  have e1 : FirstM W (w.heap.size + 1) (rqNames rs) 0 := by
    have := FirstM.new (w.alloc (.cells #[.pointer (some ⟨sb, 0, none⟩)] 62)) (rqNames rs)
    rw [World.size_alloc] at this
    refine this.of_block ?_
    rw [hW, at_old _ _ _ (by simp)]
  have e2 : W.heap[w.heap.size + 2]? = some (.cells #[.map (some (w.heap.size + 1))] 80 (0, 0)) := by rw [hW]; exact at_new _ _ _ (by simp)
  have HB := hid hb
  have HE0 := hid e0
  have HE1 := hid e1
  have HE2 := hid e2
  have HSW := hid (HS.out.below hb)
  have HSL := hid hsl
  have HWS := hid (show W.heap.size = w.heap.size + 3 by rw [hW]; simp)
  clear hW hb e0 e1 e2 hsl
  obtain ⟨s0, s1, s2⟩ := HSW.out.cells
  have p0 := block_cell HE0.out (i := 0) rfl
  have p1 := lt_of_block HE0.out
  go_wp2_with fail
  clear s0 s1 s2 p0 p1
  go_loopw [16] (fun q wr => ∃ k : Nat, k ≤ rs.length ∧ q = .int .i64 (k : Int) ∧ Hid (FirstM wr (w.heap.size + 1) (rqNames rs) k) ∧ Hid (Chg (fun b => b = w.heap.size + 1) W wr)) (fun q _ => rs.length - (intOf q).toNat)
  case atStart => exact ⟨0, Nat.zero_le _, rfl, HE1.out, Chg.refl _ _⟩
  case round =>
    obtain ⟨k, hk, rfl, HM, HC⟩ := hrel
    have HBW : Hid (Below w.heap.size w wr) := hid (HB.out.trans (HC.out.below (B := w.heap.size) (fun b hb => by omega) HB.out.size))
    have h0 := HC.out.box HE0.out (show w.heap.size ≠ w.heap.size + 1 by omega)
    have h2 := HC.out.box HE2.out (show w.heap.size + 2 ≠ w.heap.size + 1 by omega)
    have hs3 := HSW.out.chg HC.out (show sb ≠ w.heap.size + 1 by have := HSL.out; omega)
    obtain ⟨s0, s1, s2⟩ := hs3.cells
    have p0 := block_cell h0 (i := 0) rfl
    have p1 := lt_of_block h0
    have f0 := block_cell h2 (i := 0) rfl
    have f1 := lt_of_block h2
    have HH0 := hid h0
    have HH2 := hid h2
    have HS3 := hid hs3
    clear h0 h2 hs3
    by_cases hlt : k < rs.length
    · have hkk : (k : Int) < rs.length := by omega
      obtain ⟨b, o, A1, c1, r, rfl, HX, hr⟩ := (HR.out.any HBW.out).get hlt
      obtain ⟨_, hlb, _, n1, _, _, _, _, _, _, _⟩ := hr
      have HNA := hid (show (rqNames rs).getD k ⟨#[]⟩ = r.name by rw [rqNames_at k hlt, HX.out])
      clear HX
      by_cases hf : firstN r.name (rqNames rs) < k
      · have hlk : ∀ n, (Instr.lookup 80 (.map (some (w.heap.size + 1))) (.string r.name) true).run Tryd.prog (wr.drewN n) = .ok (.tuple #[.int .i64 (firstN r.name (rqNames rs) : Int), .bool true]) (wr.drewN n) := fun n => by
          have := (HM.out.of_block (w' := wr.drewN n) rfl).has r.name
          rw [if_pos hf, decide_eq_true hf] at this
          exact this
        have HN := hid (HM.out.skip HNA.out (by rw [rqNames_len]; exact hlt) hf)
        clear hf
        go_upto_region 5 with (fail)
        go_quiet (fail)
        go_wp2_with fail
        go_roundw
        case rel => exact ⟨k + 1, by omega, by go_num, HN.out.of_block rfl, HC.out.drewN _⟩
        case measure => simp [intOf]; omega
      · have hlk : ∀ n, (Instr.lookup 80 (.map (some (w.heap.size + 1))) (.string r.name) true).run Tryd.prog (wr.drewN n) = .ok (.tuple #[.int .i64 0, .bool false]) (wr.drewN n) := fun n => by
          have := (HM.out.of_block (w' := wr.drewN n) rfl).has r.name
          rw [if_neg hf, decide_eq_false hf] at this
          exact this
        have HNF := hid hf
        clear hf
        go_upto_region 5 with (fail)
        go_quiet (fail)
        obtain ⟨w5, hw5⟩ : ∃ w5, w5 = wr.drewN nq := ⟨_, rfl⟩
        have HD5 := hid (show Drawn wr w5 from hw5 ▸ Drawn.n wr nq)
        rw [← hw5]
        clear hw5 hlk
        have hbd := HD5.out.below wr.heap.size
        have HM5 := hid (HM.out.of_block (w' := w5) (hbd.block _ HM.out.lt))
        have a0 := (hbd.cell (p := ⟨sb, 1, none⟩) s2).trans s1
        have a1 := Nat.lt_of_lt_of_le s2 hbd.size
        have a2 := (hbd.cell (p := ⟨w.heap.size, 0, none⟩) p1).trans p0
        have a3 := Nat.lt_of_lt_of_le p1 hbd.size
        have a4 := (hbd.cell (p := ⟨w.heap.size + 2, 0, none⟩) f1).trans f0
        have a5 := Nat.lt_of_lt_of_le f1 hbd.size
        have a6 := (hbd.cell (p := ⟨b, o + k * 8 + 1, none⟩) hlb).trans n1
        have a7 := Nat.lt_of_lt_of_le hlb hbd.size
        obtain ⟨w6, hput, hm6, hg6, hs6⟩ := (HM5.out.of_block (w' := w5.drew) rfl).put HNA.out (by rw [rqNames_len]; exact hlt) HNF.out
        have HM6 := hid hm6
        have HC6 := hid ((HC.out.drawn HD5.out).grown (w'' := w6) ⟨hg6.os, hg6.tape, hg6.output, hg6.size, hg6.block⟩ (fun b e _ => (Option.some.inj e).symm))
        clear hm6 hg6 hs6 hbd s0 s1 s2 p0 p1 f0 f1 n1 hlb
        go_upto_region 7 with (fail)
        go_still_tail 10, (by kernel_rfl)
        simp only [World.drew_eq]
        go_wp2_with fail
        go_roundw
        case rel => exact ⟨k + 1, by omega, by go_num, HM6.out, HC6.out⟩
        case measure => simp [intOf]; omega
    · have hkk : ¬ (k : Int) < rs.length := by omega
      have hke : k = rs.length := by omega
      subst hke
      have HM' := hid HM.out
      go_wp2_with fail
      refine bodyPost_gen fun W9 hW9 => ?_
      have hb9 : Below wr.heap.size wr W9 := by rw [hW9]; go_grown
      have h9 : W9.heap[wr.heap.size]? = some (.cells #[.func (.func 40) #[] #[.pointer (some ⟨w.heap.size, 0, none⟩)], .func (.func 41) #[] #[.pointer (some ⟨w.heap.size + 2, 0, none⟩), .pointer (some ⟨w.heap.size, 0, none⟩)], .func (.func 42) #[] #[.pointer (some ⟨w.heap.size, 0, none⟩)]] 65 (0, 0)) := by rw [hW9]; exact at_new _ _ _ rfl
      have hR9 : RulesAt W9 wr.heap.size w.heap.size (w.heap.size + 2) (w.heap.size + 1) sb (rqNames rs) := by
        refine ⟨h9, (hb9.block _ (lt_of_block HH0.out)).trans HH0.out, (hb9.block _ (lt_of_block HH2.out)).trans HH2.out, ?_⟩
        rw [rqNames_len]
        exact HM'.out.of_block (hb9.block _ HM'.out.lt)
      have hbf := HBW.out.trans (hb9.mono HBW.out.size)
      clear hW9 h9 hb9
      go_ret
      exact ⟨wr.heap.size, rfl, ⟨_, _, _, hR9⟩, hbf⟩
end Go.Proofs.YtdakdpfofgkjoaaDoor
set_option linter.unusedVariables false
set_option linter.unusedSimpArgs false
namespace Go.Proofs.YtdakdpfofgkjoaaDoor
open Go.RowKit Go.Shelf
attribute [local go_sem] cell_alloc_old run_store_func

def wErr (r : Rq) : Int := if wordsOk r then 0 else 1
theorem words_kind {r : Rq} (h1 : r.kind ≠ 1) (h2 : r.kind ≠ 2) : wErr r = 1 := by
  unfold wErr wordsOk
  rw [decide_eq_false h1, decide_eq_false h2]; rfl
theorem words_part {r : Rq} (h : nameB r.part = false) : wErr r = 1 := by
  unfold wErr wordsOk
  rw [h]; simp
theorem words_name {r : Rq} (h : nameB r.name = false) : wErr r = 1 := by
  unfold wErr wordsOk
  rw [h]; simp
theorem words_yes {r : Rq} (h : r.kind = 1 ∨ r.kind = 2) (h2 : nameB r.part = true) (h3 : nameB r.name = true) : wErr r = 0 := by
  unfold wErr wordsOk
  rw [h2, h3]
  rcases h with h | h <;> rw [h] <;> rfl
theorem reqErr_eq (l : List Sg) (rs : List Rq) (i : Nat) : reqErr l rs i = if wErr (rs.getD i default) ≠ 0 then wErr (rs.getD i default) else if firstN (rs.getD i default).name (rqNames rs) < i then 4 else formErr l (rs.getD i default).f := by
  unfold reqErr wErr
  cases wordsOk (rs.getD i default) <;> simp
theorem bneI_t {a b : Int} (h : a ≠ b) : (a != b) = true := bne_iff_ne.2 h
theorem bneI_f {a b : Int} (h : a = b) : (a != b) = false := by rw [h]; simp
set_option maxRecDepth 100000 in
set_option maxHeartbeats 4000000 in
theorem words_any {E : Dom} (rs : List Rq) (i sb pb : Nat) (AS : Option Addr) (n cS : Nat) (AR : Option Addr) (m cR : Nat) (w : World) (hi : i < rs.length) (hp : w.heap[pb]? = some (.cells #[.pointer (some ⟨sb, 0, none⟩)] 62 (0, 0))) (hs : SpecAt w sb AS n cS AR m cR) (hm : m = rs.length) (hr : RdR w E AR cR rs) (hk : GK w) :
    Calls Tryd.prog 40 #[.int .i64 (i : Int), .pointer (some ⟨pb, 0, none⟩)] w fun e w' => e = .returned (.int .i64 (wErr (rs.getD i default))) ∧ Below w.heap.size w w' := by
  subst hm
  obtain ⟨b, o, A1, c1, r, rfl, HX, hr1⟩ := hr.get hi
  have hlen := hr.len.1
  obtain ⟨_, hlb, n0, n1, n2, _, _, _, _, _, _⟩ := hr1
  rw [HX.out]
  clear HX hr
  obtain ⟨s0, s1, s2⟩ := hs.cells
  have p0 := block_cell hp (i := 0) rfl
  have p1 := lt_of_block hp
  have hii : (i : Int) < rs.length := by omega
  have HK := hid hk
  clear hs hp hk
  have HN1 := hid (name_any r.part w HK.out)
  have HN2 := hid (fun (W : World) (hb : Below w.heap.size w W) => name_any r.name W (HK.out.below hb HK.out.pos))
  by_cases k1 : r.kind = 1
  · have d1 := bneI_f k1
    have HKD := hid (show r.kind = 1 ∨ r.kind = 2 from .inl k1)
    clear k1
    cases q1 : nameB r.part
    · have HR := hid (words_part q1)
      rw [q1] at HN1
      clear q1
      go_enter Tryd.func40, Tryd.ntmps40
      go_wp2_with (go_at_call 26; (with_reducible refine HN1.out.mono ?_); rintro e W2 ⟨rfl, hb2⟩; have m1 := (hb2.cell (p := ⟨b, o + i * 8 + 1, none⟩) hlb).trans n1; have hl2 := Nat.lt_of_lt_of_le hlb hb2.size; have HB2 := hid hb2; clear hb2 n0 n1 n2 hlb)
      go_ret
      exact ⟨ret_int HR.out.symm, HB2.out⟩
    have HQ1 := hid q1
    rw [q1] at HN1
    clear q1
    cases q2 : nameB r.name
    · have HR := hid (words_name q2)
      rw [q2] at HN2
      clear q2
      go_enter Tryd.func40, Tryd.ntmps40
      go_wp2_with (first | (go_at_call 26; (with_reducible refine HN1.out.mono ?_); rintro e W2 ⟨rfl, hb2⟩; have m1 := (hb2.cell (p := ⟨b, o + i * 8 + 1, none⟩) hlb).trans n1; have hl2 := Nat.lt_of_lt_of_le hlb hb2.size; have HB2 := hid hb2; clear hb2 n0 n1 n2 hlb) | (go_at_call 26; (with_reducible refine (HN2.out _ HB2.out).mono ?_); rintro e W3 ⟨rfl, hb3⟩; have HB3 := hid (HB2.out.trans (hb3.mono HB2.out.size)); clear hb3))
      go_ret
      exact ⟨ret_int HR.out.symm, HB3.out⟩
    have HR := hid (words_yes HKD.out HQ1.out q2)
    rw [q2] at HN2
    clear q2
    go_enter Tryd.func40, Tryd.ntmps40
    go_wp2_with (first | (go_at_call 26; (with_reducible refine HN1.out.mono ?_); rintro e W2 ⟨rfl, hb2⟩; have m1 := (hb2.cell (p := ⟨b, o + i * 8 + 1, none⟩) hlb).trans n1; have hl2 := Nat.lt_of_lt_of_le hlb hb2.size; have HB2 := hid hb2; clear hb2 n0 n1 n2 hlb) | (go_at_call 26; (with_reducible refine (HN2.out _ HB2.out).mono ?_); rintro e W3 ⟨rfl, hb3⟩; have HB3 := hid (HB2.out.trans (hb3.mono HB2.out.size)); clear hb3))
    go_ret
    exact ⟨ret_int HR.out.symm, HB3.out⟩
  have d1 := bneI_t k1
  by_cases k2 : r.kind = 2
  · have d2 := bneI_f k2
    have HKD := hid (show r.kind = 1 ∨ r.kind = 2 from .inr k2)
    clear k1 k2
    cases q1 : nameB r.part
    · have HR := hid (words_part q1)
      rw [q1] at HN1
      clear q1
      go_enter Tryd.func40, Tryd.ntmps40
      go_wp2_with (go_at_call 26; (with_reducible refine HN1.out.mono ?_); rintro e W2 ⟨rfl, hb2⟩; have m1 := (hb2.cell (p := ⟨b, o + i * 8 + 1, none⟩) hlb).trans n1; have hl2 := Nat.lt_of_lt_of_le hlb hb2.size; have HB2 := hid hb2; clear hb2 n0 n1 n2 hlb)
      go_ret
      exact ⟨ret_int HR.out.symm, HB2.out⟩
    have HQ1 := hid q1
    rw [q1] at HN1
    clear q1
    cases q2 : nameB r.name
    · have HR := hid (words_name q2)
      rw [q2] at HN2
      clear q2
      go_enter Tryd.func40, Tryd.ntmps40
      go_wp2_with (first | (go_at_call 26; (with_reducible refine HN1.out.mono ?_); rintro e W2 ⟨rfl, hb2⟩; have m1 := (hb2.cell (p := ⟨b, o + i * 8 + 1, none⟩) hlb).trans n1; have hl2 := Nat.lt_of_lt_of_le hlb hb2.size; have HB2 := hid hb2; clear hb2 n0 n1 n2 hlb) | (go_at_call 26; (with_reducible refine (HN2.out _ HB2.out).mono ?_); rintro e W3 ⟨rfl, hb3⟩; have HB3 := hid (HB2.out.trans (hb3.mono HB2.out.size)); clear hb3))
      go_ret
      exact ⟨ret_int HR.out.symm, HB3.out⟩
    have HR := hid (words_yes HKD.out HQ1.out q2)
    rw [q2] at HN2
    clear q2
    go_enter Tryd.func40, Tryd.ntmps40
    go_wp2_with (first | (go_at_call 26; (with_reducible refine HN1.out.mono ?_); rintro e W2 ⟨rfl, hb2⟩; have m1 := (hb2.cell (p := ⟨b, o + i * 8 + 1, none⟩) hlb).trans n1; have hl2 := Nat.lt_of_lt_of_le hlb hb2.size; have HB2 := hid hb2; clear hb2 n0 n1 n2 hlb) | (go_at_call 26; (with_reducible refine (HN2.out _ HB2.out).mono ?_); rintro e W3 ⟨rfl, hb3⟩; have HB3 := hid (HB2.out.trans (hb3.mono HB2.out.size)); clear hb3))
    go_ret
    exact ⟨ret_int HR.out.symm, HB3.out⟩
  have d2 := bneI_t k2
  have HR := hid (words_kind k1 k2)
  clear k1 k2
  go_enter Tryd.func40, Tryd.ntmps40
  go_wp2_with fail
  go_ret
  exact ⟨ret_int HR.out.symm, Below.refl _ _⟩
set_option maxRecDepth 100000 in
set_option maxHeartbeats 4000000 in
theorem twice_any {E : Dom} (rs : List Rq) (i sb pb fb mb : Nat) (AS : Option Addr) (n cS : Nat) (AR : Option Addr) (m cR : Nat) (w : World) (hi : i < rs.length) (hp : w.heap[pb]? = some (.cells #[.pointer (some ⟨sb, 0, none⟩)] 62 (0, 0))) (hfb : w.heap[fb]? = some (.cells #[.map (some mb)] 80 (0, 0))) (hmp : FirstM w mb (rqNames rs) (rqNames rs).length) (hs : SpecAt w sb AS n cS AR m cR) (hm : m = rs.length) (hr : RdR w E AR cR rs) :
    Calls Tryd.prog 41 #[.int .i64 (i : Int), .pointer (some ⟨fb, 0, none⟩), .pointer (some ⟨pb, 0, none⟩)] w fun e w' => e = .returned (.int .i64 (if firstN (rs.getD i default).name (rqNames rs) < i then 4 else 0)) ∧ Below w.heap.size w w' := by
  subst hm
  obtain ⟨b, o, A1, c1, r, rfl, HX, hr1⟩ := hr.get hi
  have hlen := hr.len.1
  obtain ⟨_, hlb, _, n1, _, _, _, _, _, _, _⟩ := hr1
  rw [HX.out]
  have hfl : firstN r.name (rqNames rs) < (rqNames rs).length := by
    rw [firstN_lt, ← HX.out]
    exact List.mem_map_of_mem (getD_mem hi)
  clear HX hr
  obtain ⟨s0, s1, s2⟩ := hs.cells
  have p0 := block_cell hp (i := 0) rfl
  have p1 := lt_of_block hp
  have f0 := block_cell hfb (i := 0) rfl
  have f1 := lt_of_block hfb
  have hii : (i : Int) < rs.length := by omega
  obtain ⟨q, hq⟩ : ∃ q, firstN r.name (rqNames rs) = q := ⟨_, rfl⟩
  have hlk : ∀ n, (Instr.lookup 80 (.map (some mb)) (.string r.name) false).run Tryd.prog (w.drewN n) = .ok (.int .i64 (q : Int)) (w.drewN n) := fun n => by
    have := (hmp.of_block (w' := w.drewN n) rfl).look r.name
    rw [if_pos hfl, hq] at this
    exact this
  rw [hq]
  clear hq hfl hmp hs hp hfb
  by_cases hqi : q < i
  · have hqq : (q : Int) < (i : Int) := by omega
    rw [if_pos hqi]
    clear hqi
    go_enter Tryd.func41, Tryd.ntmps41
    go_upto_region 1 with (fail)
    go_quiet (fail)
    go_wp2_with fail
    go_ret
    exact ⟨rfl, (Drawn.n _ _).below _⟩
  · have hqq : ¬ (q : Int) < (i : Int) := by omega
    rw [if_neg hqi]
    clear hqi
    go_enter Tryd.func41, Tryd.ntmps41
    go_upto_region 1 with (fail)
    go_quiet (fail)
    go_wp2_with fail
    go_ret
    exact ⟨rfl, (Drawn.n _ _).below _⟩
set_option maxRecDepth 100000 in
set_option maxHeartbeats 4000000 in
theorem content_any {D E : Dom} (l : List Sg) (rs : List Rq) (i sb pb : Nat) (AS : Option Addr) (n cS : Nat) (AR : Option Addr) (m cR : Nat) (w : World) (hi : i < rs.length) (hp : w.heap[pb]? = some (.cells #[.pointer (some ⟨sb, 0, none⟩)] 62 (0, 0))) (hs : SpecAt w sb AS n cS AR m cR) (hn : n = l.length) (hl : RdG w D AS cS l) (hm : m = rs.length) (hr : RdR w E AR cR rs) (hg : GF w) (hk : GK w) :
    Calls Tryd.prog 42 #[.int .i64 (i : Int), .pointer (some ⟨pb, 0, none⟩)] w fun e w' => e = .returned (.int .i64 (formErr l (rs.getD i default).f)) ∧ Below w.heap.size w w' := by
  subst hm hn
  obtain ⟨b, o, A1, c1, r, rfl, HX, hr1⟩ := hr.get hi
  have hlen := hr.len.1
  have HF := hid hr1.form
  have HL := hid hl.old
  have HG := hid hg
  have HK := hid hk
  obtain ⟨_, hlb, _, _, _, n3, n4, n5, n6, n7, _⟩ := hr1
  rw [HX.out]
  clear HX hr hl hg hk
  have HC := hid (fun (W : World) (hb : Below w.heap.size w W) => typform_any l AS cS l.length r.f _ W rfl (HL.out.any hb) ⟨A1, c1, rfl, HF.out.args.any hb⟩ (HG.out.below hb HG.out.pos) (HK.out.below hb HK.out.pos))
  obtain ⟨s0, s1, s2⟩ := hs.cells
  have p0 := block_cell hp (i := 0) rfl
  have p1 := lt_of_block hp
  have hii : (i : Int) < rs.length := by omega
  have HCELL : Hid (∀ W' : World, Below w.heap.size w W' → W'.cell? ⟨pb, 0, none⟩ = some (.pointer (some ⟨sb, 0, none⟩)) ∧ W'.cell? ⟨sb, 0, none⟩ = some (.slice AS l.length cS) ∧ W'.cell? ⟨sb, 1, none⟩ = some (.slice (some ⟨b, o, none⟩) rs.length cR) ∧ W'.cell? ⟨b, o + i * 8 + 3, none⟩ = some (.int .i64 r.f.op) ∧ W'.cell? ⟨b, o + i * 8 + 4, none⟩ = some (.string r.f.name) ∧ W'.cell? ⟨b, o + i * 8 + 5, none⟩ = some (.int .i64 r.f.val) ∧ W'.cell? ⟨b, o + i * 8 + 6, none⟩ = some (.int .i64 r.f.bound) ∧ W'.cell? ⟨b, o + i * 8 + 7, none⟩ = some (.slice A1 r.f.args.length c1)) := hid fun W' hb => ⟨(hb.cell (p := ⟨pb, 0, none⟩) p1).trans p0, (hb.cell (p := ⟨sb, 0, none⟩) s2).trans s0, (hb.cell (p := ⟨sb, 1, none⟩) s2).trans s1, (hb.cell (p := ⟨b, o + i * 8 + 3, none⟩) hlb).trans n3, (hb.cell (p := ⟨b, o + i * 8 + 4, none⟩) hlb).trans n4, (hb.cell (p := ⟨b, o + i * 8 + 5, none⟩) hlb).trans n5, (hb.cell (p := ⟨b, o + i * 8 + 6, none⟩) hlb).trans n6, (hb.cell (p := ⟨b, o + i * 8 + 7, none⟩) hlb).trans n7⟩
  clear hs hp
  go_enter Tryd.func42, Tryd.ntmps42
  go_upto_region 1 with (fail)
  go_region_held3 (fun W' : World => W'.cell? ⟨pb, 0, none⟩ = some (.pointer (some ⟨sb, 0, none⟩)) ∧ W'.cell? ⟨sb, 0, none⟩ = some (.slice AS l.length cS) ∧ W'.cell? ⟨sb, 1, none⟩ = some (.slice (some ⟨b, o, none⟩) rs.length cR) ∧ W'.cell? ⟨b, o + i * 8 + 3, none⟩ = some (.int .i64 r.f.op) ∧ W'.cell? ⟨b, o + i * 8 + 4, none⟩ = some (.string r.f.name) ∧ W'.cell? ⟨b, o + i * 8 + 5, none⟩ = some (.int .i64 r.f.val) ∧ W'.cell? ⟨b, o + i * 8 + 6, none⟩ = some (.int .i64 r.f.bound) ∧ W'.cell? ⟨b, o + i * 8 + 7, none⟩ = some (.slice A1 r.f.args.length c1))
    (first | (with_reducible exact HCELL.out _ HB2.out) | (go_keep; done))
    ((go_at_call 9; (with_reducible refine (HC.out _ ?_).mono ?_); (first | exact Below.refl _ _ | go_grown | exact (Drawn.n _ _).below _); rintro e W2 ⟨rfl, hb2⟩; have HB2 := hid ((show Below w.heap.size w _ by first | exact Below.refl _ _ | go_grown | exact (Drawn.n _ _).below _).trans (hb2.mono (by first | exact Nat.le_refl _ | simp))); clear hb2))
  all_goals
    go_wp2_with fail
    go_ret
    exact ⟨rfl, HB2.out⟩
end Go.Proofs.YtdakdpfofgkjoaaDoor
