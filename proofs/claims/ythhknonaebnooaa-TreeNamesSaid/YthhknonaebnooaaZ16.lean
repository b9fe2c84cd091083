/-
  Walk of the law TreeNames.
-/
import Derived.Test.YthhknonaebnooaaZ15
set_option linter.unusedVariables false
set_option linter.unusedSimpArgs false
namespace Go.Proofs.Ythhknonaebnooaa
open Go.RowKit
attribute [local go_sem] cell_alloc_old

set_option maxRecDepth 100000 in
set_option maxHeartbeats 4000000 in
theorem lnames_any {D E : Dom} (v : Value) (b : Bu) (A : Option Addr) (c : Nat) (t : List Nd) (a : Int) (w : World) (h : RdBu w D v b) (ht : RdN w E A c t) :
    Calls Try.prog 5 #[v, .slice A t.length c, .int .i64 a] w fun e w' => e = .returned (.bool true) ∧ Below w.heap.size w w' := by
  have HV := hid h.old
  have HT := hid ht.old
  have htl := ht.len.1
  obtain ⟨As, cs, An, cn, rfl, hs, hn⟩ := h
  have HN0 := hid (show RdVVV w (· < w.heap.size) An cn b.next from monoVVV hn fun _ _ hl => hl)
  clear hs hn ht
  go_enter Try.func5, Try.ntmps5
  go_upto_region 1 with (fail)
  refine wp_gen fun W hW => ?_
  have hB : HasB W w.heap.size #[.int .i64 b.letters, .slice As b.start.length cs, .slice An b.next.length cn] b := by rw [hW]; exact HasB.new HV.out
  have hb : Below w.heap.size w W := by rw [hW]; go_grown
  have HB := hid hB
  have HBW := hid hb
  have HT0 := hid HT.out
  have HT := hid (HT.out.keep (Keeps.of_below (hb.mono (Nat.le_refl _)) fun _ h => h))
  clear hB hb hW
  go_wp2_with fail
  refine (head_any W).mono ?_
  rintro e W1 ⟨rfl, hb⟩
  have HB := hid (HB.out.below hb)
  have HT := hid (HT.out.old.keep (Keeps.of_below hb fun _ h => h))
  have HBW := hid (HBW.out.trans (hb.mono HBW.out.size))
  clear hb
  obtain ⟨o0, o1, o2, ol⟩ := HB.out.cells
  go_wp2_with fail
  refine (few_any _ b W1 HB.out.rd).mono ?_
  rintro e W2 ⟨rfl, hb⟩
  have HB := hid (HB.out.below hb)
  have HT := hid (HT.out.old.keep (Keeps.of_below hb fun _ h => h))
  have HBW := hid (HBW.out.trans (hb.mono HBW.out.size))
  clear hb
  clear o0 o1 o2 ol
  obtain ⟨o0, o1, o2, ol⟩ := HB.out.cells
  by_cases hf : fewB b = true
  rotate_left
  · have hf : fewB b = false := by simpa using hf
    go_wp2_with fail
    exact bodyPost_ret (v := .bool true) (by simp [results, Try.results5, go_sem]) rfl ⟨rfl, HBW.out⟩
  have HF := hid hf
  go_wp2_with fail
  refine (smallt_any A c t W2 HT.out).mono ?_
  rintro e W3 ⟨rfl, rfl⟩
  by_cases hm : smallTB t = true
  rotate_left
  · have hm : smallTB t = false := by simpa using hm
    go_wp2_with fail
    exact bodyPost_ret (v := .bool true) (by simp [results, Try.results5, go_sem]) rfl ⟨rfl, HBW.out⟩
  have hsm := small_sizes hm
  have HSM := hid hsm
  clear hsm
  go_wp2_with fail
  refine (rtvalid_any _ b A c t W3 HB.out.rd HT.out (by have := HSM.out.1; omega) (fun k hk => by have := HSM.out.2 k hk; omega)).mono ?_
  rintro e W4 ⟨rfl, hb⟩
  have HB := hid (HB.out.below hb)
  have HT := hid (HT.out.old.keep (Keeps.of_below hb fun _ h => h))
  have HBW := hid (HBW.out.trans (hb.mono HBW.out.size))
  clear hb
  clear o0 o1 o2 ol
  obtain ⟨o0, o1, o2, ol⟩ := HB.out.cells
  by_cases hv : treeB b t = true
  rotate_left
  · have hv : treeB b t = false := by simpa using hv
    go_wp2_with fail
    exact bodyPost_ret (v := .bool true) (by simp [results, Try.results5, go_sem]) rfl ⟨rfl, HBW.out⟩
  have HTR := hid hv
  by_cases ha0 : a < 0
  · have hd0 : decide (a < 0) = true := decide_eq_true ha0
    go_wp2_with fail
    exact bodyPost_ret (v := .bool true) (by simp [results, Try.results5, go_sem]) rfl ⟨rfl, HBW.out⟩
  by_cases ha1 : b.letters ≤ a
  · have hd0 : decide (a < 0) = false := decide_eq_false ha0
    have hd1 : decide (b.letters ≤ a) = true := decide_eq_true ha1
    go_wp2_with fail
    exact bodyPost_ret (v := .bool true) (by simp [results, Try.results5, go_sem]) rfl ⟨rfl, HBW.out⟩
  have hd0 : decide (a < 0) = false := decide_eq_false ha0
  have hd1 : decide (b.letters ≤ a) = false := decide_eq_false ha1
  have HL := hid (And.intro ha0 ha1)
  have HNM := hid (names_ok HTR.out (show 0 ≤ a by omega) (show a < b.letters by omega))
  clear hf hm hv
  go_wp2_with fail
  refine (pstepf_any _ b A c t a W4 HB.out.rd HT.out HF.out).mono ?_
  obtain ⟨S, hS⟩ : ∃ S, S = stepF b t a := ⟨_, rfl⟩
  rw [← hS] at HNM ⊢
  clear hS
  obtain ⟨X, G, B⟩ := S
  rintro e W5 ⟨A1, AG, AB, c1, cG, cB, rfl, hb, h1, h2, h3⟩
  have HB := hid (HB.out.below hb)
  have HT := hid (HT.out.any hb)
  have HBW := hid (HBW.out.trans (hb.mono HBW.out.size))
  have H1 := hid h1
  have H2 := hid h2
  have H3 := hid h3
  clear hb h1 h2 h3 o0 o1 o2 ol
  go_upto_region 5 with (fail)
  refine wp_gen fun W6 hW6 => ?_
  have hb6 : Below W5.heap.size W5 W6 := by rw [hW6]; go_grown
  obtain ⟨kb, hkb⟩ : ∃ kb, kb = W5.heap.size := ⟨_, rfl⟩
  have hev : W6.heap[kb]? = some (.cells #[.slice AG G.length cG, .slice AB B.length cB] 31 (0, 0)) := by rw [hW6, hkb]; exact heap_alloc_new W5 _
  have HEV := hid hev
  have HT := hid (HT.out.any hb6)
  have HX := hid (H1.out.any hb6)
  have HG := hid (H2.out.any hb6)
  have HBD := hid (H3.out.any hb6)
  have HBW := hid (HBW.out.trans (hb6.mono HBW.out.size))
  have hxl := HX.out.len.1
  have hgl := HG.out.len.1
  have hbl := HBD.out.len.1
  rw [← hkb]
  clear hW6 hb6 hkb hev H1 H2 H3
  go_wp2_with fail
  go_loopw [10, 11] (fun x y wr => ∃ i : Nat, i ≤ t.length ∧ x = .int .i64 ((cnt b t a i : Int) - 1) ∧ y = .int .i64 (i : Int) ∧ Drawn W6 wr) (fun _ y _ => t.length - (intOf y).toNat)
  case atStart => exact ⟨0, Nat.zero_le _, rfl, rfl, Drawn.refl _⟩
  case round =>
    obtain ⟨i, hi, rfl, rfl, hd⟩ := hrel
    have HTD := hid (HT.out.keep hd.keeps)
    have HXD := hid (HX.out.keep hd.keeps)
    have HGD := hid (HG.out.keep hd.keeps)
    have HBDD := hid (HBD.out.keep hd.keeps)
    have he := ((hd.below W6.heap.size).block _ (lt_of_block HEV.out)).trans HEV.out
    have v0 := block_cell he (i := 0) rfl
    have v1 := block_cell he (i := 1) rfl
    have HEVD := hid he
    have HD := hid hd
    clear hd he
    by_cases hlt : i < t.length
    · have hii : (i : Int) < t.length := by omega
      obtain ⟨g, o, A2, c2, x, rfl, _, hgl2, HXX, hr, h0, h1, h2⟩ := HTD.out.get hlt
      have hnd : nd t i = x := HXX.out
      have hold := HNM.out.old i hlt
      have hbad := HNM.out.bad i hlt
      rw [hnd] at hold hbad
      have hcs := cnt_succ b t a i
      have HIN : Hid (∀ m, Calls Try.prog 26 #[.slice AB B.length cB, .int .i64 x.name] (wr.drewN m) fun e w' => e = .returned (.bool (!stay b t a i)) ∧ w' = wr.drewN m) := hid fun m => by
        have hc := in_any AB cB B x.name (wr.drewN m) (HBDD.out.keep (Drawn.n wr m).keeps)
        rw [hbad] at hc; exact hc
      have hpl := place_any A1 c1 X x.name wr HXD.out
      rw [hold] at hpl
      clear hr h1 h2 hbad hold hnd
      by_cases hs : stay b t a i = true
      · rw [hs] at HIN
        rw [if_pos hs] at hpl hcs
        have HPL := hid hpl
        have HCS := hid hcs
        clear hpl hs hcs
        go_wp2_with fail
        refine HPL.out.mono ?_
        rintro e w1 ⟨rfl, rfl⟩
        have d1 : decide ((cnt b t a i : Int) < 0) = false := decide_eq_false (by omega)
        have d2 : decide ((cnt b t a i : Int) < (cnt b t a i : Int) - 1) = false := decide_eq_false (by omega)
        have d3 : decide (0 ≤ (cnt b t a i : Int)) = true := decide_eq_true (by omega)
        go_wp2_with fail
        go_quiet ((first | (go_at_call 26; first | (with_reducible exact Calls.quiet_of_same (HIN.out _)))))
        go_wp2_with fail
        go_roundw
        case rel => exact ⟨i + 1, by omega, by rw [HCS.out]; go_num, by go_num, HD.out.drewN _⟩
        case measure => simp [intOf]; omega
      · have hs : stay b t a i = false := by simpa using hs
        rw [hs] at HIN
        rw [if_neg (by rw [hs]; decide)] at hpl hcs
        have HPL := hid hpl
        have HCS := hid hcs
        clear hpl hs hcs
        go_wp2_with fail
        refine HPL.out.mono ?_
        rintro e w1 ⟨rfl, rfl⟩
        go_wp2_with fail
        go_quiet ((first | (go_at_call 26; first | (with_reducible exact Calls.quiet_of_same (HIN.out _)))))
        go_wp2_with fail
        go_roundw
        case rel => exact ⟨i + 1, by omega, by rw [HCS.out], by go_num, HD.out.drewN _⟩
        case measure => simp [intOf]; omega
    · obtain rfl : i = t.length := by omega
      obtain ⟨W7, hW7⟩ : ∃ W7, W7 = wr := ⟨_, rfl⟩
      rw [← hW7] at HTD HXD HGD HBDD v0 v1 HEVD HD ⊢
      clear hW7
      go_wp2_with fail
      go_loopw [13] (fun y wr => ∃ i : Nat, i ≤ X.length ∧ y = .int .i64 (i : Int) ∧ Drawn W7 wr) (fun y _ => X.length - (intOf y).toNat)
      case atStart => exact ⟨0, Nat.zero_le _, rfl, Drawn.refl _⟩
      case round =>
        obtain ⟨i, hi, rfl, hd⟩ := hrel
        have HTD := hid (HTD.out.keep hd.keeps)
        have HXD := hid (HXD.out.keep hd.keeps)
        have HGD := hid (HGD.out.keep hd.keeps)
        have HBDD := hid (HBDD.out.keep hd.keeps)
        have he := ((hd.below W7.heap.size).block _ (lt_of_block HEVD.out)).trans HEVD.out
        have v0 := block_cell he (i := 0) rfl
        have v1 := block_cell he (i := 1) rfl
        have HD2 := hid hd
        have HEV7 := hid he
        clear hd he
        by_cases hlt : i < X.length
        · have hii : (i : Int) < X.length := by omega
          obtain ⟨g, o, A2, c2, x, rfl, _, hgl2, HXX, hr, h0, h1, h2⟩ := HXD.out.get hlt
          have hnd : nd X i = x := HXX.out
          have hnew := HNM.out.new i hlt
          rw [hnd] at hnew
          obtain ⟨z, hz⟩ : ∃ z, z = placeZ t x.name := ⟨_, rfl⟩
          have HPL : Hid (∀ m, Calls Try.prog 25 #[.slice A t.length c, .int .i64 x.name] (wr.drewN m) fun e w' => e = .returned (.int .i64 z) ∧ w' = wr.drewN m) := hid fun m => by
            rw [hz]; exact place_any A c t x.name (wr.drewN m) (HTD.out.keep (Drawn.n wr m).keeps)
          rw [← hz] at hnew
          clear hr h1 h2 hnd hz
          rcases hnew with hz | ⟨hz, hc, hg, hbd⟩
          · have d1 : decide (z < 0) = false := decide_eq_false (by omega)
            have HZ := hid hz
            clear hz
            go_wp2_with fail
            go_quiet ((first | (go_at_call 25; first | (with_reducible exact Calls.quiet_of_same (HPL.out _)))))
            go_wp2_with fail
            go_roundw
            case rel => exact ⟨i + 1, by omega, by go_num, HD2.out.drewN _⟩
            case measure => simp [intOf]; omega
          · have d1 : decide (z < 0) = true := decide_eq_true hz
            have d2 : decide ((i : Int) < (cnt b t a t.length : Int) - 1) = false := decide_eq_false (by omega)
            have d2' : ¬ (i : Int) < (cnt b t a t.length : Int) - 1 := by omega
            have HING : Hid (∀ m, Calls Try.prog 26 #[.slice AG G.length cG, .int .i64 x.name] (wr.drewN m) fun e w' => e = .returned (.bool false) ∧ w' = wr.drewN m) := hid fun m => by
              have hc := in_any AG cG G x.name (wr.drewN m) (HGD.out.keep (Drawn.n wr m).keeps)
              rw [hg] at hc; exact hc
            have HINB : Hid (∀ m, Calls Try.prog 26 #[.slice AB B.length cB, .int .i64 x.name] (wr.drewN m) fun e w' => e = .returned (.bool false) ∧ w' = wr.drewN m) := hid fun m => by
              have hc := in_any AB cB B x.name (wr.drewN m) (HBDD.out.keep (Drawn.n wr m).keeps)
              rw [hbd] at hc; exact hc
            have HZ := hid hz
            clear hz hc hg hbd
            go_wp2_with fail
            go_quiet ((first | (go_at_call 25; first | (with_reducible exact Calls.quiet_of_same (HPL.out _))) | (go_at_call 26; first | (with_reducible exact Calls.quiet_of_same (HING.out _)) | (with_reducible exact Calls.quiet_of_same (HINB.out _)))))
            go_wp2_with fail
            go_roundw
            case rel => exact ⟨i + 1, by omega, by go_num, HD2.out.drewN _⟩
            case measure => simp [intOf]; omega
        · obtain ⟨W8, hW8⟩ : ∃ W8, W8 = wr := ⟨_, rfl⟩
          rw [← hW8] at HTD HXD HGD HBDD v0 v1 HEV7 HD2 ⊢
          have HBW8 := hid (HBW.out.trans ((HD.out.trans HD2.out).below _))
          clear hW8 HEVD
          go_wp2_with fail
          go_loopw [14] (fun y wr => ∃ i : Nat, i ≤ G.length ∧ y = .int .i64 (i : Int) ∧ Drawn W8 wr) (fun y _ => G.length - (intOf y).toNat)
          case atStart => exact ⟨0, Nat.zero_le _, rfl, Drawn.refl _⟩
          case round =>
            obtain ⟨i, hi, rfl, hd⟩ := hrel
            have HTD := hid (HTD.out.keep hd.keeps)
            have HXD := hid (HXD.out.keep hd.keeps)
            have HGD := hid (HGD.out.keep hd.keeps)
            have HBDD := hid (HBDD.out.keep hd.keeps)
            have he := ((hd.below W8.heap.size).block _ (lt_of_block HEV7.out)).trans HEV7.out
            have v0 := block_cell he (i := 0) rfl
            have v1 := block_cell he (i := 1) rfl
            have HD3 := hid hd
            have HEV8 := hid he
            clear hd he
            by_cases hlt : i < G.length
            · have hii : (i : Int) < G.length := by omega
              obtain ⟨g, o, x, hAG, _, hgl2, HXX, h0⟩ := HGD.out.get hlt
              subst hAG
              obtain ⟨p1, p2, p3⟩ := HNM.out.good i hlt
              rw [HXX.out] at p1 p2 p3
              obtain ⟨z, hz⟩ : ∃ z, z = placeZ t x := ⟨_, rfl⟩
              obtain ⟨y, hy⟩ : ∃ y, y = placeZ X x := ⟨_, rfl⟩
              have HPL : Hid (∀ m, Calls Try.prog 25 #[.slice A t.length c, .int .i64 x] (wr.drewN m) fun e w' => e = .returned (.int .i64 z) ∧ w' = wr.drewN m) := hid fun m => by
                rw [hz]; exact place_any A c t x (wr.drewN m) (HTD.out.keep (Drawn.n wr m).keeps)
              have HPX : Hid (∀ m, Calls Try.prog 25 #[.slice A1 X.length c1, .int .i64 x] (wr.drewN m) fun e w' => e = .returned (.int .i64 y) ∧ w' = wr.drewN m) := hid fun m => by
                rw [hy]; exact place_any A1 c1 X x (wr.drewN m) (HXD.out.keep (Drawn.n wr m).keeps)
              rw [← hz] at p1
              rw [← hy] at p2
              have d1 : decide (z < 0) = false := decide_eq_false (by omega)
              have d2 : decide (y < 0) = false := decide_eq_false (by omega)
              have HP := hid (And.intro p1 p2)
              clear p1 p2 hz hy
              rcases Nat.eq_zero_or_pos i with h00 | h00
              · have d3 : decide ((0 : Int) < (i : Int)) = false := decide_eq_false (by omega)
                have d3' : ¬ 0 < i := by omega
                clear p3 h00
                go_wp2_with fail
                go_quiet ((first | (go_at_call 25; first | (with_reducible exact Calls.quiet_of_same (HPL.out _)) | (with_reducible exact Calls.quiet_of_same (HPX.out _)))))
                go_wp2_with fail
                go_roundw
                case rel => exact ⟨i + 1, by omega, by go_num, HD3.out.drewN _⟩
                case measure => simp [intOf]; omega
              · have d3 : decide ((0 : Int) < (i : Int)) = true := decide_eq_true (by omega)
                have d3' : (0 : Int) < (i : Int) := by omega
                obtain ⟨j, rfl⟩ : ∃ j, i = j + 1 := ⟨i - 1, by omega⟩
                have p3 := p3 (by omega)
                rw [Nat.add_sub_cancel] at p3
                obtain ⟨g', o', x', hA', _, _, HX', h0'⟩ := HGD.out.get (show j < G.length by omega)
                injection hA' with hA'
                injection hA' with e1 e2
                subst e1 e2
                rw [HX'.out] at p3
                have d4 : decide (x ≤ x') = false := decide_eq_false (by omega)
                have d5 : ((j + 1 : Nat) : Int) - 1 = (j : Int) := by omega
                have HP3 := hid p3
                clear p3 h00
                go_wp2_with fail
                go_quiet ((first | (go_at_call 25; first | (with_reducible exact Calls.quiet_of_same (HPL.out _)) | (with_reducible exact Calls.quiet_of_same (HPX.out _)))))
                go_wp2_with fail
                go_roundw
                case rel => exact ⟨j + 1 + 1, by omega, by go_num, HD3.out.drewN _⟩
                case measure => simp [intOf]; omega
            · obtain ⟨W9, hW9⟩ : ∃ W9, W9 = wr := ⟨_, rfl⟩
              rw [← hW9] at HTD HXD HGD HBDD v0 v1 HEV8 HD3 ⊢
              have HBW9 := hid (HBW8.out.trans (HD3.out.below _))
              clear hW9 HEV7
              go_wp2_with fail
              go_loopw [15] (fun y wr => ∃ i : Nat, i ≤ B.length ∧ y = .int .i64 (i : Int) ∧ Drawn W9 wr) (fun y _ => B.length - (intOf y).toNat)
              case atStart => exact ⟨0, Nat.zero_le _, rfl, Drawn.refl _⟩
              case round =>
                obtain ⟨i, hi, rfl, hd⟩ := hrel
                have HTD := hid (HTD.out.keep hd.keeps)
                have HBDD := hid (HBDD.out.keep hd.keeps)
                have he := ((hd.below W9.heap.size).block _ (lt_of_block HEV8.out)).trans HEV8.out
                have v0 := block_cell he (i := 0) rfl
                have v1 := block_cell he (i := 1) rfl
                have HD4 := hid hd
                clear hd he
                by_cases hlt : i < B.length
                · have hii : (i : Int) < B.length := by omega
                  obtain ⟨g, o, x, hAB, _, hgl2, HXX, h0⟩ := HBDD.out.get hlt
                  subst hAB
                  obtain ⟨p1, p3⟩ := HNM.out.badS i hlt
                  rw [HXX.out] at p1 p3
                  obtain ⟨z, hz⟩ : ∃ z, z = placeZ t x := ⟨_, rfl⟩
                  have HPL : Hid (∀ m, Calls Try.prog 25 #[.slice A t.length c, .int .i64 x] (wr.drewN m) fun e w' => e = .returned (.int .i64 z) ∧ w' = wr.drewN m) := hid fun m => by
                    rw [hz]; exact place_any A c t x (wr.drewN m) (HTD.out.keep (Drawn.n wr m).keeps)
                  rw [← hz] at p1
                  have d1 : decide (z < 0) = false := decide_eq_false (by omega)
                  have HP := hid p1
                  clear p1 hz
                  rcases Nat.eq_zero_or_pos i with h00 | h00
                  · have d3 : decide ((0 : Int) < (i : Int)) = false := decide_eq_false (by omega)
                    have d3' : ¬ 0 < i := by omega
                    clear p3 h00
                    go_wp2_with fail
                    go_quiet ((first | (go_at_call 25; first | (with_reducible exact Calls.quiet_of_same (HPL.out _)))))
                    go_wp2_with fail
                    go_roundw
                    case rel => exact ⟨i + 1, by omega, by go_num, HD4.out.drewN _⟩
                    case measure => simp [intOf]; omega
                  · have d3 : decide ((0 : Int) < (i : Int)) = true := decide_eq_true (by omega)
                    have d3' : (0 : Int) < (i : Int) := by omega
                    obtain ⟨j, rfl⟩ : ∃ j, i = j + 1 := ⟨i - 1, by omega⟩
                    have p3 := p3 (by omega)
                    rw [Nat.add_sub_cancel] at p3
                    obtain ⟨g', o', x', hA', _, _, HX', h0'⟩ := HBDD.out.get (show j < B.length by omega)
                    injection hA' with hA'
                    injection hA' with e1 e2
                    subst e1 e2
                    rw [HX'.out] at p3
                    have d4 : decide (x ≤ x') = false := decide_eq_false (by omega)
                    have d5 : ((j + 1 : Nat) : Int) - 1 = (j : Int) := by omega
                    have HP3 := hid p3
                    clear p3 h00
                    go_wp2_with fail
                    go_quiet ((first | (go_at_call 25; first | (with_reducible exact Calls.quiet_of_same (HPL.out _)))))
                    go_wp2_with fail
                    go_roundw
                    case rel => exact ⟨j + 1 + 1, by omega, by go_num, HD4.out.drewN _⟩
                    case measure => simp [intOf]; omega
                · go_wp2_with fail
                  exact bodyPost_ret (v := .bool true) (by simp [results, Try.results5, go_sem]) rfl ⟨rfl, HBW9.out.trans (HD4.out.below _)⟩
end Go.Proofs.Ythhknonaebnooaa
