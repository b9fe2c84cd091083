/-
  Walks of or, choose.
-/
import Derived.Test.YtfabdpnjjondaaaG5
set_option linter.unusedVariables false
set_option linter.unusedSimpArgs false
namespace Go.Proofs.Ytfabdpnjjondaaa
open Go.RowKit
attribute [local go_sem] cell_alloc_old build_g1 build_g2 build_g3

structure OrRel (w : World) (bg : Nat) (gs : GS) (F : Dom) (list : List Int) (k : Nat) (v : Value) (wr : World) : Prop where
  own : wr.ownsRow w.heap.size 3 1 v k ((negTo gs list k).1.map (.int .i64))
  gat : ∃ Fk, Gat wr bg (negTo gs list k).2 Fk ∧ (∀ b, Fk b → F b ∨ w.heap.size ≤ b) ∧ Chg F w wr ∧ ∀ b, Fk b → v.ownBlock ≠ some b

theorem negTo_pre {ib nl : Int} {gs : GS} (h : Ok ib nl gs) (list : List Int) (hl : ∀ j, j < list.length → 0 ≤ list.getD j 0 ∧ list.getD j 0 < gs.length) {j : Nat} : ∀ {k : Nat}, j ≤ k → k ≤ list.length → (negTo gs list j).2 <+: (negTo gs list k).2
  | 0, hj, _ => by obtain rfl : j = 0 := by omega
                   exact List.prefix_rfl
  | k + 1, hj, hk => by
    rcases Nat.lt_or_ge j (k + 1) with h' | h'
    · refine (negTo_pre h list hl (k := k) (by omega) (by omega)).trans ?_
      obtain ⟨h1, h2, h3⟩ := neg_up h list hl k (by omega)
      have hr := hl k (by omega)
      have := h1.length_le
      exact (not_up h2 hr.1 (a := list.getD k 0) (by omega)).pre
    · obtain rfl : j = k + 1 := by omega
      exact List.prefix_rfl

theorem Chg.below_of {F : Dom} {w w' : World} (h : Chg F w w') {b : Nat} (hb : b < w.heap.size) (hn : ¬ F b) : w'.heap[b]? = w.heap[b]? := h.block b hb hn
theorem own_chg {F : Dom} {w w' : World} {base n size : Nat} {e : TypeId} {v : Value} {xs : List Value} (h : w.ownsRow base e size v n xs) (hc : Chg F w w') (hn : ∀ b, F b → v.ownBlock ≠ some b) : w'.ownsRow base e size v n xs := by
  obtain ⟨h1, h2⟩ := h
  refine ⟨h1, ?_⟩
  rcases h2 with h2 | ⟨g, cap, cur, hv, hg, hh, r⟩
  · exact .inl h2
  · refine .inr ⟨g, cap, cur, hv, hg, ?_, r⟩
    rw [hc.block g (lt_of_block hh) (fun hf => hn g hf (by rw [hv]; rfl))]
    exact hh

set_option maxHeartbeats 4000000 in
theorem or_any (w : World) (bg : Nat) (gs : GS) (F D : Dom) (A : Option Addr) (c : Nat) (list : List Int) (hG : Gat w bg gs F) (hr : RdI w D A c list) (hD : ∀ b, D b → ¬ F b) {ib nl : Int} (hok : Ok ib nl gs)
    (hlist : ∀ j, j < list.length → 0 ≤ list.getD j 0 ∧ list.getD j 0 < gs.length) (hl : (orG gs list).2.length ≤ 999980) (hls : list.length ≤ 1000000) :
    Calls Try.prog 59 #[.pointer (some ⟨bg, 0, none⟩), .slice A list.length c] w fun e w' =>
      e = .returned (.int .i64 (orG gs list).1) ∧ GPost w bg F (orG gs list).2 w' := by
  obtain ⟨i0, hi, hz0, hz1, hz2⟩ := info_parts int_info
  have hz2' : i0.bytes = 8 := hz2
  have hnu := neg_up hok list hlist
  obtain ⟨n1, n2, n3⟩ := hnu list.length (Nat.le_refl _)
  have hau := and_up n2 (negTo gs list list.length).1 (fun j hj => n3 j (by rwa [neg_len] at hj))
  have hxu := not_up hau.ok hau.lo hau.hi
  have hal : (andG (negTo gs list list.length).2 (negTo gs list list.length).1).2.length ≤ 999980 := by
    have := hxu.len
    unfold orG at hl; dsimp only at hl; omega
  have hnl : (negTo gs list list.length).2.length ≤ 999980 := by have := hau.len; omega
  have hpre : ∀ k, k ≤ list.length → (negTo gs list k).2.length ≤ 999980 := fun k hk => by
    have := (negTo_pre hok list hlist hk (Nat.le_refl _)).length_le; omega
  have HNU := hid hnu
  have HP := hid hpre
  have HR := hid hr
  have HL := hid hlist
  have HN2 := hid n2
  have HN3 := hid n3
  have HAU := hid hau
  have hmm := hr.len.1
  clear hnu hpre hr hlist n1 n2 n3 hau hxu hl
  go_enter Try.func59, Try.ntmps59
  go_wp2_with fail
  go_loopw [5, 10] (fun v t wr => ∃ (k : Nat) (A2 : Option Addr) (c2 : Nat), k ≤ list.length ∧ t = .int .i64 k ∧ v = .slice A2 k c2 ∧ OrRel w bg gs F list k v wr) (fun _ t _ => list.length - (intOf t).toNat)
  case atStart => exact ⟨0, none, 0, Nat.zero_le _, rfl, rfl, ⟨by simpa [negTo] using World.ownsRow_nil w w.heap.size 3 1, F, hG, fun _ h => .inl h, Chg.refl F w, fun _ _ => by simp [Value.ownBlock]⟩⟩
  case round =>
    obtain ⟨k, A2, c2, hk, rfl, rfl, hown, F2, hg2, hs2, hc2, hf2⟩ := hrel
    by_cases hlt : k < list.length
    · obtain ⟨b, o, a, rfl, hDb, _, HX, hc⟩ := (HR.out.keep (hc2.keeps hD)).get hlt
      obtain ⟨u1, u2, u3⟩ := HNU.out k hk
      have har := HL.out k hlt
      rw [HX.out] at har
      have hle := u1.length_le
      have hpk := HP.out k hk
      have hpk1 := HP.out (k + 1) hlt
      have hst : negTo gs list (k + 1) = ((negTo gs list k).1 ++ [(notG (negTo gs list k).2 a).1], (notG (negTo gs list k).2 a).2) := by rw [negTo, HX.out]
      obtain ⟨ns, gk, hs⟩ : ∃ ns gk, negTo gs list k = (ns, gk) := ⟨_, _, rfl⟩
      rw [hs] at hst hg2 hpk hown hle
      dsimp only at hst hg2 hpk hown hle
      obtain ⟨x, xs, hx⟩ : ∃ x xs, notG gk a = (x, xs) := ⟨_, _, rfl⟩
      rw [hx] at hst
      have HX2 := hid hx
      have HST := hid hst
      have HG2 := hid hg2
      have HS2 := hid hs2
      have HC2 := hid hc2
      have HF2 := hid hf2
      have HOWN := hid hown
      have hi1 : (k : Int) < list.length := by omega
      clear hx hst hg2 hs2 hc2 hf2 hown hs u1 u2 u3
      go_wp2_with fail
      refine (not_any _ bg gk F2 a HG2.out (by omega) (by omega) (by omega)).mono ?_
      rw [HX2.out]
      rintro e w4 ⟨rfl, F4, hg4, hs4, hc4⟩
      have hw4 : w.heap.size ≤ w4.heap.size := Nat.le_trans HC2.out.size hc4.size
      have hown4 := own_chg HOWN.out hc4 HF2.out
      have hlo := HOWN.out.lt
      have HG4 := hid hg4
      have HS4 := hid hs4
      have HC4 := hid hc4
      have HOW4 := hid hown4
      have HLO := hid hlo
      clear hg4 hs4 hc4 hown4 hlo
      go_wp2_with (at_builtin; refine wpList_append_rd _ rfl (.tmp 14) (.tmp 18) 23 rfl w.heap.size 3 i0 _ 1 8 Try.underlying23 hi hz0 hz1 hz2 rfl (by omega) (.slice A2 k c2) k _ rfl (HOW4.out.alloc _) _ (some ⟨w4.heap.size, 0, none⟩) 1 1 _ rfl (Rd.cell1 (cell_new w4 _ _ _ _ _ rfl rfl)) (by simp [Value.oneCell']) (by omega) (maxLen_le (by omega)) (by simp; omega) ?_; intro A5 c5 w5 hown5 hg5 hat5)
      go_roundw
      case rel =>
        have hb5 : Chg (fun b => some b = (Value.slice A2 k c2).ownBlock) w4 w5 := (Chg.of_below ((Below.refl _ _).alloc (Nat.le_refl _) _)).trans (Chg.of_grown (F := fun b => some b = (Value.slice A2 k c2).ownBlock) hg5 (fun _ h => h.symm)) (fun _ h => .inl h)
        have hfr : ∀ b, F4 b → some b ≠ (Value.slice A2 k c2).ownBlock := fun b hb e => by
          rcases HS4.out b hb with h | h
          · exact HF2.out b h e.symm
          · have := (HLO.out b e.symm).2; omega
        refine ⟨k + 1, A5, c5, by omega, by go_num, rfl, ⟨?_, F4, ?_, fun b hb => ?_, ?_, fun b hb => ?_⟩⟩
        · rw [HST.out, List.map_append]; exact hown5
        · rw [HST.out]
          obtain ⟨Ag, cg, mg, q1, q2, q3, q4⟩ := HG4.out
          refine ⟨Ag, cg, mg, ?_, ?_, ?_, q4⟩
          · rw [hb5.block bg (lt_of_block q1) (hfr bg ((q4 bg).2 (.inl rfl)))]; exact q1
          · exact own_chg q2 hb5 (fun b hb e => hfr b ((q4 b).2 (.inr (.inr e.symm))) hb)
          · exact q3.of_block (hb5.block mg q3.lt (hfr mg ((q4 mg).2 (.inr (.inl rfl)))))
        · rcases HS4.out b hb with h | h
          · exact HS2.out b h
          · exact .inr (Nat.le_trans HC2.out.size h)
        · exact (HC2.out.trans HC4.out HS2.out).trans hb5 (fun b hb => .inr (HLO.out b hb.symm).1)
        · intro e
          rcases hat5 with h | h
          · rw [h] at e; exact hfr b hb e.symm
          · rw [h] at e
            have := HG4.out.lt hb
            simp at e; omega
      case measure => simp [intOf]; omega
    · obtain rfl : k = list.length := by omega
      have hrd : RdI wr (fun b => (Value.slice A2 list.length c2).ownBlock = some b) A2 c2 (negTo gs list list.length).1 := by
        unfold RdI
        rw [neg_len]
        have h1 := Rd.own (D := fun _ => True) hown (by omega) (fun _ _ => trivial)
        refine ⟨h1.1, fun hp => ?_⟩
        obtain ⟨b, o, e1, _, e2, e3⟩ := h1.2 hp
        exact ⟨b, o, e1, by rw [e1]; rfl, e2, e3⟩
      have hnl2 : (negTo gs list list.length).1.length = list.length := neg_len _ _ _
      have HRD := hid hrd
      have HNL := hid hnl2
      have HG2 := hid hg2
      have HS2 := hid hs2
      have HC2 := hid hc2
      have HF2 := hid hf2
      clear hrd hnl2 hown hg2 hs2 hc2 hf2
      obtain ⟨x, xs, hx⟩ : ∃ x xs, andG (negTo gs list list.length).2 (negTo gs list list.length).1 = (x, xs) := ⟨_, _, rfl⟩
      rw [hx] at HAU hal
      have HX2 := hid hx
      have HO : Hid (orG gs list = notG xs x) := hid (by unfold orG; dsimp only; rw [hx])
      dsimp only at hal
      have hx0 := HAU.out.lo
      have hx1 := HAU.out.hi
      dsimp only at hx0 hx1
      have HCALL : Hid (Calls Try.prog 60 #[.pointer (some ⟨bg, 0, none⟩), .slice A2 list.length c2] wr fun e w' => e = .returned (.int .i64 x) ∧ GPost wr bg F2 xs w') := hid (by
        have := and_any wr bg (negTo gs list list.length).2 F2 _ A2 c2 (negTo gs list list.length).1 HG2.out HRD.out (fun b hb hf => HF2.out b hf hb) HN2.out (fun j hj => HN3.out j (by rwa [HNL.out] at hj)) (by rw [HX2.out]; exact (by omega : xs.length ≤ 999990))
        rw [HNL.out, HX2.out] at this
        exact this)
      clear hx
      go_wp2_with fail
      refine HCALL.out.mono ?_
      rintro e w5 ⟨rfl, F5, hg5, hs5, hc5⟩
      have HG5 := hid hg5
      have HP5 : Hid (∀ gs' w', GPost w5 bg F5 gs' w' → GPost w bg F gs' w') := hid fun gs' w' h => GPost.trans HS2.out HC2.out (GPost.trans hs5 hc5 h)
      clear hg5 hs5 hc5
      go_wp2_with fail
      refine (not_any _ bg xs F5 x HG5.out (by omega) hx0 (by omega)).mono ?_
      rintro e w6 ⟨rfl, hp6⟩
      have HP6 := hid hp6
      clear hp6
      go_wp2_with fail
      go_ret
      rw [HO.out]
      exact ⟨rfl, HP5.out _ _ HP6.out⟩
end Go.Proofs.Ytfabdpnjjondaaa
