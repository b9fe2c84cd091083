/-
  Walk of the law TreeNames.
  Sorting by insertion, plain; a list of nodes in memory of one's own.
-/
import Derived.Test.YthhknonaebnooaaZ15
set_option linter.unusedVariables false
set_option linter.unusedSimpArgs false
namespace Go.Proofs.Ythhknonaebnooaa
open Go.RowKit
attribute [local go_sem] cell_alloc_old

set_option maxRecDepth 100000 in
set_option maxHeartbeats 4000000 in
theorem lnames_any {D E : Dom} (v : Value) (b : Bu) (A : Option Addr) (c : Nat) (t : List Nd) (a : Int) (w : World) (h : RdBu w D v b) (ht : RdN w E A c t) :
    Calls Try.prog 5 #[v, .slice A t.length c, .int .i64 a] w fun e w' => e = .returned (.bool true) ∧ Below w.heap.size w w' := by
  have HV := hid h.old
  have HT := hid ht.old
  have htl := ht.len.1
  obtain ⟨As, cs, An, cn, rfl, hs, hn⟩ := h
  have HN0 := hid (show RdVVV w (· < w.heap.size) An cn b.next from monoVVV hn fun _ _ hl => hl)
  clear hs hn ht
  go_enter Try.func5, Try.ntmps5
  go_upto_region 1 with (fail)
  refine wp_gen fun W hW => ?_
  have hB : HasB W w.heap.size #[.int .i64 b.letters, .slice As b.start.length cs, .slice An b.next.length cn] b := by rw [hW]; exact HasB.new HV.out
  have hb : Below w.heap.size w W := by rw [hW]; go_grown
  have HB := hid hB
  have HBW := hid hb
  have HT0 := hid HT.out
  have HT := hid (HT.out.keep (Keeps.of_below (hb.mono (Nat.le_refl _)) fun _ h => h))
  clear hB hb hW
  go_wp2_with fail
  refine (head_any W).mono ?_
  rintro e W1 ⟨rfl, hb⟩
  have HB := hid (HB.out.below hb)
  have HT := hid (HT.out.old.keep (Keeps.of_below hb fun _ h => h))
  have HBW := hid (HBW.out.trans (hb.mono HBW.out.size))
  clear hb
  obtain ⟨o0, o1, o2, ol⟩ := HB.out.cells
  go_wp2_with fail
  refine (few_any _ b W1 HB.out.rd).mono ?_
  rintro e W2 ⟨rfl, hb⟩
  have HB := hid (HB.out.below hb)
  have HT := hid (HT.out.old.keep (Keeps.of_below hb fun _ h => h))
  have HBW := hid (HBW.out.trans (hb.mono HBW.out.size))
  clear hb
  clear o0 o1 o2 ol
  obtain ⟨o0, o1, o2, ol⟩ := HB.out.cells
  by_cases hf : fewB b = true
  rotate_left
  · have hf : fewB b = false := by simpa using hf
    go_wp2_with fail
    exact bodyPost_ret (v := .bool true) (by simp [results, Try.results5, go_sem]) rfl ⟨rfl, HBW.out⟩
  have HF := hid hf
  go_wp2_with fail
  refine (smallt_any A c t W2 HT.out).mono ?_
  rintro e W3 ⟨rfl, rfl⟩
  by_cases hm : smallTB t = true
  rotate_left
  · have hm : smallTB t = false := by simpa using hm
    go_wp2_with fail
    exact bodyPost_ret (v := .bool true) (by simp [results, Try.results5, go_sem]) rfl ⟨rfl, HBW.out⟩
  have hsm := small_sizes hm
  have HSM := hid hsm
  clear hsm
  go_wp2_with fail
  refine (rtvalid_any _ b A c t W3 HB.out.rd HT.out (by have := HSM.out.1; omega) (fun k hk => by have := HSM.out.2 k hk; omega)).mono ?_
  rintro e W4 ⟨rfl, hb⟩
  have HB := hid (HB.out.below hb)
  have HT := hid (HT.out.old.keep (Keeps.of_below hb fun _ h => h))
  have HBW := hid (HBW.out.trans (hb.mono HBW.out.size))
  clear hb
  clear o0 o1 o2 ol
  obtain ⟨o0, o1, o2, ol⟩ := HB.out.cells
  by_cases hv : treeB b t = true
  rotate_left
  · have hv : treeB b t = false := by simpa using hv
    go_wp2_with fail
    exact bodyPost_ret (v := .bool true) (by simp [results, Try.results5, go_sem]) rfl ⟨rfl, HBW.out⟩
  have HTR := hid hv
  by_cases ha0 : a < 0
  · have hd0 : decide (a < 0) = true := decide_eq_true ha0
    go_wp2_with fail
    exact bodyPost_ret (v := .bool true) (by simp [results, Try.results5, go_sem]) rfl ⟨rfl, HBW.out⟩
  by_cases ha1 : b.letters ≤ a
  · have hd0 : decide (a < 0) = false := decide_eq_false ha0
    have hd1 : decide (b.letters ≤ a) = true := decide_eq_true ha1
    go_wp2_with fail
    exact bodyPost_ret (v := .bool true) (by simp [results, Try.results5, go_sem]) rfl ⟨rfl, HBW.out⟩
  have hd0 : decide (a < 0) = false := decide_eq_false ha0
  have hd1 : decide (b.letters ≤ a) = false := decide_eq_false ha1
  have HL := hid (And.intro ha0 ha1)
  have HNM := hid (names_ok HTR.out (show 0 ≤ a by omega) (show a < b.letters by omega))
  clear hf hm hv
  go_wp2_with fail
  refine (pstepf_any _ b A c t a W4 HB.out.rd HT.out HF.out).mono ?_
  obtain ⟨S, hS⟩ : ∃ S, S = stepF b t a := ⟨_, rfl⟩
  rw [← hS] at HNM ⊢
  clear hS
  obtain ⟨X, G, B⟩ := S
  rintro e W5 ⟨A1, AG, AB, c1, cG, cB, rfl, hb, h1, h2, h3⟩
  have HB := hid (HB.out.below hb)
  have HT := hid (HT.out.any hb)
  have HBW := hid (HBW.out.trans (hb.mono HBW.out.size))
  have H1 := hid h1
  have H2 := hid h2
  have H3 := hid h3
  clear hb h1 h2 h3 o0 o1 o2 ol
  go_upto_region 5 with (fail)
  refine wp_gen fun W6 hW6 => ?_
  have hb6 : Below W5.heap.size W5 W6 := by rw [hW6]; go_grown
  obtain ⟨kb, hkb⟩ : ∃ kb, kb = W5.heap.size := ⟨_, rfl⟩
  have hev : W6.heap[kb]? = some (.cells #[.slice AG G.length cG, .slice AB B.length cB] 31 (0, 0)) := by rw [hW6, hkb]; exact heap_alloc_new W5 _
  have HEV := hid hev
  have HT := hid (HT.out.any hb6)
  have HX := hid (H1.out.any hb6)
  have HG := hid (H2.out.any hb6)
  have HBD := hid (H3.out.any hb6)
  have HBW := hid (HBW.out.trans (hb6.mono HBW.out.size))
  have hxl := HX.out.len.1
  have hgl := HG.out.len.1
  have hbl := HBD.out.len.1
  rw [← hkb]
  clear hW6 hb6 hkb hev H1 H2 H3
  go_wp2_with fail
  go_loopw [10, 11] (fun x y wr => ∃ i : Nat, i ≤ t.length ∧ x = .int .i64 ((cnt b t a i : Int) - 1) ∧ y = .int .i64 (i : Int) ∧ Drawn W6 wr) (fun _ y _ => t.length - (intOf y).toNat)
  case atStart => exact ⟨0, Nat.zero_le _, rfl, rfl, Drawn.refl _⟩
  case round =>
    obtain ⟨i, hi, rfl, rfl, hd⟩ := hrel
    have HTD := hid (HT.out.keep hd.keeps)
    have HXD := hid (HX.out.keep hd.keeps)
    have HGD := hid (HG.out.keep hd.keeps)
    have HBDD := hid (HBD.out.keep hd.keeps)
    have he := ((hd.below W6.heap.size).block _ (lt_of_block HEV.out)).trans HEV.out
    have v0 := block_cell he (i := 0) rfl
    have v1 := block_cell he (i := 1) rfl
    have HEVD := hid he
    have HD := hid hd
    clear hd he
    by_cases hlt : i < t.length
    · have hii : (i : Int) < t.length := by omega
      obtain ⟨g, o, A2, c2, x, rfl, _, hgl2, HXX, hr, h0, h1, h2⟩ := HTD.out.get hlt
      have hnd : nd t i = x := HXX.out
      have hold := HNM.out.old i hlt
      have hbad := HNM.out.bad i hlt
      rw [hnd] at hold hbad
      have hcs := cnt_succ b t a i
      have HIN : Hid (∀ m, Calls Try.prog 26 #[.slice AB B.length cB, .int .i64 x.name] (wr.drewN m) fun e w' => e = .returned (.bool (!stay b t a i)) ∧ w' = wr.drewN m) := hid fun m => by
        have hc := in_any AB cB B x.name (wr.drewN m) (HBDD.out.keep (Drawn.n wr m).keeps)
        rw [hbad] at hc; exact hc
      have hpl := place_any A1 c1 X x.name wr HXD.out
      rw [hold] at hpl
      clear hr h1 h2 hbad hold hnd
      by_cases hs : stay b t a i = true
      · rw [hs] at HIN
        rw [if_pos hs] at hpl hcs
        have HPL := hid hpl
        have HCS := hid hcs
        clear hpl hs hcs
        go_wp2_with fail
        refine HPL.out.mono ?_
        rintro e w1 ⟨rfl, rfl⟩
        have d1 : decide ((cnt b t a i : Int) < 0) = false := decide_eq_false (by omega)
        have d2 : decide ((cnt b t a i : Int) < (cnt b t a i : Int) - 1) = false := decide_eq_false (by omega)
        have d3 : decide (0 ≤ (cnt b t a i : Int)) = true := decide_eq_true (by omega)
        go_wp2_with fail
        go_quiet ((first | (go_at_call 26; first | (with_reducible exact Calls.quiet_of_same (HIN.out _)))))
        go_wp2_with fail
        go_roundw
        case rel => exact ⟨i + 1, by omega, by rw [HCS.out]; go_num, by go_num, HD.out.drewN _⟩
        case measure => simp [intOf]; omega
      · have hs : stay b t a i = false := by simpa using hs
        rw [hs] at HIN
        rw [if_neg (by rw [hs]; decide)] at hpl hcs
        have HPL := hid hpl
        have HCS := hid hcs
        clear hpl hs hcs
        go_wp2_with fail
        refine HPL.out.mono ?_
        rintro e w1 ⟨rfl, rfl⟩
        go_wp2_with fail
        go_quiet ((first | (go_at_call 26; first | (with_reducible exact Calls.quiet_of_same (HIN.out _)))))
        go_wp2_with fail
        go_roundw
        case rel => exact ⟨i + 1, by omega, by rw [HCS.out], by go_num, HD.out.drewN _⟩
        case measure => simp [intOf]; omega
    · obtain rfl : i = t.length := by omega
      obtain ⟨W7, hW7⟩ : ∃ W7, W7 = wr := ⟨_, rfl⟩
      rw [← hW7] at HTD HXD HGD HBDD v0 v1 HEVD HD ⊢
      clear hW7
      go_wp2_with fail
      go_loopw [13] (fun y wr => ∃ i : Nat, i ≤ X.length ∧ y = .int .i64 (i : Int) ∧ Drawn W7 wr) (fun y _ => X.length - (intOf y).toNat)
      case atStart => exact ⟨0, Nat.zero_le _, rfl, Drawn.refl _⟩
      case round =>
        obtain ⟨i, hi, rfl, hd⟩ := hrel
        have HTD := hid (HTD.out.keep hd.keeps)
        have HXD := hid (HXD.out.keep hd.keeps)
        have HGD := hid (HGD.out.keep hd.keeps)
        have HBDD := hid (HBDD.out.keep hd.keeps)
        have he := ((hd.below W7.heap.size).block _ (lt_of_block HEVD.out)).trans HEVD.out
        have v0 := block_cell he (i := 0) rfl
        have v1 := block_cell he (i := 1) rfl
        have HD2 := hid hd
        have HEV7 := hid he
        clear hd he
        by_cases hlt : i < X.length
        · have hii : (i : Int) < X.length := by omega
          obtain ⟨g, o, A2, c2, x, rfl, _, hgl2, HXX, hr, h0, h1, h2⟩ := HXD.out.get hlt
          have hnd : nd X i = x := HXX.out
          have hnew := HNM.out.new i hlt
          rw [hnd] at hnew
          obtain ⟨z, hz⟩ : ∃ z, z = placeZ t x.name := ⟨_, rfl⟩
          have HPL : Hid (∀ m, Calls Try.prog 25 #[.slice A t.length c, .int .i64 x.name] (wr.drewN m) fun e w' => e = .returned (.int .i64 z) ∧ w' = wr.drewN m) := hid fun m => by
            rw [hz]; exact place_any A c t x.name (wr.drewN m) (HTD.out.keep (Drawn.n wr m).keeps)
          rw [← hz] at hnew
          clear hr h1 h2 hnd hz
          rcases hnew with hz | ⟨hz, hc, hg, hbd⟩
          · have d1 : decide (z < 0) = false := decide_eq_false (by omega)
            have HZ := hid hz
            clear hz
            go_wp2_with fail
            go_quiet ((first | (go_at_call 25; first | (with_reducible exact Calls.quiet_of_same (HPL.out _)))))
            go_wp2_with fail
            go_roundw
            case rel => exact ⟨i + 1, by omega, by go_num, HD2.out.drewN _⟩
            case measure => simp [intOf]; omega
          · have d1 : decide (z < 0) = true := decide_eq_true hz
            have d2 : decide ((i : Int) < (cnt b t a t.length : Int) - 1) = false := decide_eq_false (by omega)
            have d2' : ¬ (i : Int) < (cnt b t a t.length : Int) - 1 := by omega
            have HING : Hid (∀ m, Calls Try.prog 26 #[.slice AG G.length cG, .int .i64 x.name] (wr.drewN m) fun e w' => e = .returned (.bool false) ∧ w' = wr.drewN m) := hid fun m => by
              have hc := in_any AG cG G x.name (wr.drewN m) (HGD.out.keep (Drawn.n wr m).keeps)
              rw [hg] at hc; exact hc
            have HINB : Hid (∀ m, Calls Try.prog 26 #[.slice AB B.length cB, .int .i64 x.name] (wr.drewN m) fun e w' => e = .returned (.bool false) ∧ w' = wr.drewN m) := hid fun m => by
              have hc := in_any AB cB B x.name (wr.drewN m) (HBDD.out.keep (Drawn.n wr m).keeps)
              rw [hbd] at hc; exact hc
            have HZ := hid hz
            clear hz hc hg hbd
            go_wp2_with fail
            go_quiet ((first | (go_at_call 25; first | (with_reducible exact Calls.quiet_of_same (HPL.out _))) | (go_at_call 26; first | (with_reducible exact Calls.quiet_of_same (HING.out _)) | (with_reducible exact Calls.quiet_of_same (HINB.out _)))))
            go_wp2_with fail
            go_roundw
            case rel => exact ⟨i + 1, by omega, by go_num, HD2.out.drewN _⟩
            case measure => simp [intOf]; omega
        · obtain ⟨W8, hW8⟩ : ∃ W8, W8 = wr := ⟨_, rfl⟩
          rw [← hW8] at HTD HXD HGD HBDD v0 v1 HEV7 HD2 ⊢
          have HBW8 := hid (HBW.out.trans ((HD.out.trans HD2.out).below _))
          clear hW8 HEVD
          go_wp2_with fail
          go_loopw [14] (fun y wr => ∃ i : Nat, i ≤ G.length ∧ y = .int .i64 (i : Int) ∧ Drawn W8 wr) (fun y _ => G.length - (intOf y).toNat)
          case atStart => exact ⟨0, Nat.zero_le _, rfl, Drawn.refl _⟩
          case round =>
            obtain ⟨i, hi, rfl, hd⟩ := hrel
            have HTD := hid (HTD.out.keep hd.keeps)
            have HXD := hid (HXD.out.keep hd.keeps)
            have HGD := hid (HGD.out.keep hd.keeps)
            have HBDD := hid (HBDD.out.keep hd.keeps)
            have he := ((hd.below W8.heap.size).block _ (lt_of_block HEV7.out)).trans HEV7.out
            have v0 := block_cell he (i := 0) rfl
            have v1 := block_cell he (i := 1) rfl
            have HD3 := hid hd
            have HEV8 := hid he
            clear hd he
            by_cases hlt : i < G.length
            · have hii : (i : Int) < G.length := by omega
              obtain ⟨g, o, x, hAG, _, hgl2, HXX, h0⟩ := HGD.out.get hlt
              subst hAG
              obtain ⟨p1, p2, p3⟩ := HNM.out.good i hlt
              rw [HXX.out] at p1 p2 p3
              obtain ⟨z, hz⟩ : ∃ z, z = placeZ t x := ⟨_, rfl⟩
              obtain ⟨y, hy⟩ : ∃ y, y = placeZ X x := ⟨_, rfl⟩
              have HPL : Hid (∀ m, Calls Try.prog 25 #[.slice A t.length c, .int .i64 x] (wr.drewN m) fun e w' => e = .returned (.int .i64 z) ∧ w' = wr.drewN m) := hid fun m => by
                rw [hz]; exact place_any A c t x (wr.drewN m) (HTD.out.keep (Drawn.n wr m).keeps)
              have HPX : Hid (∀ m, Calls Try.prog 25 #[.slice A1 X.length c1, .int .i64 x] (wr.drewN m) fun e w' => e = .returned (.int .i64 y) ∧ w' = wr.drewN m) := hid fun m => by
                rw [hy]; exact place_any A1 c1 X x (wr.drewN m) (HXD.out.keep (Drawn.n wr m).keeps)
              rw [← hz] at p1
              rw [← hy] at p2
              have d1 : decide (z < 0) = false := decide_eq_false (by omega)
              have d2 : decide (y < 0) = false := decide_eq_false (by omega)
              have HP := hid (And.intro p1 p2)
              clear p1 p2 hz hy
              rcases Nat.eq_zero_or_pos i with h00 | h00
              · have d3 : decide ((0 : Int) < (i : Int)) = false := decide_eq_false (by omega)
                have d3' : ¬ 0 < i := by omega
                clear p3 h00
                go_wp2_with fail
                go_quiet ((first | (go_at_call 25; first | (with_reducible exact Calls.quiet_of_same (HPL.out _)) | (with_reducible exact Calls.quiet_of_same (HPX.out _)))))
                go_wp2_with fail
                go_roundw
                case rel => exact ⟨i + 1, by omega, by go_num, HD3.out.drewN _⟩
                case measure => simp [intOf]; omega
              · have d3 : decide ((0 : Int) < (i : Int)) = true := decide_eq_true (by omega)
                have d3' : (0 : Int) < (i : Int) := by omega
                obtain ⟨j, rfl⟩ : ∃ j, i = j + 1 := ⟨i - 1, by omega⟩
                have p3 := p3 (by omega)
                rw [Nat.add_sub_cancel] at p3
                obtain ⟨g', o', x', hA', _, _, HX', h0'⟩ := HGD.out.get (show j < G.length by omega)
                injection hA' with hA'
                injection hA' with e1 e2
                subst e1 e2
                rw [HX'.out] at p3
                have d4 : decide (x ≤ x') = false := decide_eq_false (by omega)
                have d5 : ((j + 1 : Nat) : Int) - 1 = (j : Int) := by omega
                have HP3 := hid p3
                clear p3 h00
                go_wp2_with fail
                go_quiet ((first | (go_at_call 25; first | (with_reducible exact Calls.quiet_of_same (HPL.out _)) | (with_reducible exact Calls.quiet_of_same (HPX.out _)))))
                go_wp2_with fail
                go_roundw
                case rel => exact ⟨j + 1 + 1, by omega, by go_num, HD3.out.drewN _⟩
                case measure => simp [intOf]; omega
            · obtain ⟨W9, hW9⟩ : ∃ W9, W9 = wr := ⟨_, rfl⟩
              rw [← hW9] at HTD HXD HGD HBDD v0 v1 HEV8 HD3 ⊢
              have HBW9 := hid (HBW8.out.trans (HD3.out.below _))
              clear hW9 HEV7
              go_wp2_with fail
              go_loopw [15] (fun y wr => ∃ i : Nat, i ≤ B.length ∧ y = .int .i64 (i : Int) ∧ Drawn W9 wr) (fun y _ => B.length - (intOf y).toNat)
              case atStart => exact ⟨0, Nat.zero_le _, rfl, Drawn.refl _⟩
              case round =>
                obtain ⟨i, hi, rfl, hd⟩ := hrel
                have HTD := hid (HTD.out.keep hd.keeps)
                have HBDD := hid (HBDD.out.keep hd.keeps)
                have he := ((hd.below W9.heap.size).block _ (lt_of_block HEV8.out)).trans HEV8.out
                have v0 := block_cell he (i := 0) rfl
                have v1 := block_cell he (i := 1) rfl
                have HD4 := hid hd
                clear hd he
                by_cases hlt : i < B.length
                · have hii : (i : Int) < B.length := by omega
                  obtain ⟨g, o, x, hAB, _, hgl2, HXX, h0⟩ := HBDD.out.get hlt
                  subst hAB
                  obtain ⟨p1, p3⟩ := HNM.out.badS i hlt
                  rw [HXX.out] at p1 p3
                  obtain ⟨z, hz⟩ : ∃ z, z = placeZ t x := ⟨_, rfl⟩
                  have HPL : Hid (∀ m, Calls Try.prog 25 #[.slice A t.length c, .int .i64 x] (wr.drewN m) fun e w' => e = .returned (.int .i64 z) ∧ w' = wr.drewN m) := hid fun m => by
                    rw [hz]; exact place_any A c t x (wr.drewN m) (HTD.out.keep (Drawn.n wr m).keeps)
                  rw [← hz] at p1
                  have d1 : decide (z < 0) = false := decide_eq_false (by omega)
                  have HP := hid p1
                  clear p1 hz
                  rcases Nat.eq_zero_or_pos i with h00 | h00
                  · have d3 : decide ((0 : Int) < (i : Int)) = false := decide_eq_false (by omega)
                    have d3' : ¬ 0 < i := by omega
                    clear p3 h00
                    go_wp2_with fail
                    go_quiet ((first | (go_at_call 25; first | (with_reducible exact Calls.quiet_of_same (HPL.out _)))))
                    go_wp2_with fail
                    go_roundw
                    case rel => exact ⟨i + 1, by omega, by go_num, HD4.out.drewN _⟩
                    case measure => simp [intOf]; omega
                  · have d3 : decide ((0 : Int) < (i : Int)) = true := decide_eq_true (by omega)
                    have d3' : (0 : Int) < (i : Int) := by omega
                    obtain ⟨j, rfl⟩ : ∃ j, i = j + 1 := ⟨i - 1, by omega⟩
                    have p3 := p3 (by omega)
                    rw [Nat.add_sub_cancel] at p3
                    obtain ⟨g', o', x', hA', _, _, HX', h0'⟩ := HBDD.out.get (show j < B.length by omega)
                    injection hA' with hA'
                    injection hA' with e1 e2
                    subst e1 e2
                    rw [HX'.out] at p3
                    have d4 : decide (x ≤ x') = false := decide_eq_false (by omega)
                    have d5 : ((j + 1 : Nat) : Int) - 1 = (j : Int) := by omega
                    have HP3 := hid p3
                    clear p3 h00
                    go_wp2_with fail
                    go_quiet ((first | (go_at_call 25; first | (with_reducible exact Calls.quiet_of_same (HPL.out _)))))
                    go_wp2_with fail
                    go_roundw
                    case rel => exact ⟨j + 1 + 1, by omega, by go_num, HD4.out.drewN _⟩
                    case measure => simp [intOf]; omega
                · go_wp2_with fail
                  exact bodyPost_ret (v := .bool true) (by simp [results, Try.results5, go_sem]) rfl ⟨rfl, HBW9.out.trans (HD4.out.below _)⟩
end Go.Proofs.Ythhknonaebnooaa
set_option linter.unusedVariables false
set_option linter.unusedSimpArgs false
namespace Go.Proofs.Ythhknonaebnooaa
open Go.RowKit

/-! Sorting. -/
theorem sortIn_perm (x : Int) : ∀ l : List Int, (sortIn x l).Perm (x :: l)
  | [] => List.Perm.refl _
  | y :: l => by
    unfold sortIn
    split
    · exact List.Perm.refl _
    · exact ((sortIn_perm x l).cons y).trans (List.Perm.swap x y l)
theorem sortIn_sorted (x : Int) : ∀ l : List Int, l.Pairwise (· ≤ ·) → (sortIn x l).Pairwise (· ≤ ·)
  | [], _ => by simp [sortIn]
  | y :: l, h => by
    unfold sortIn
    have h1 := List.pairwise_cons.1 h
    split
    · rename_i hxy
      refine List.pairwise_cons.2 ⟨fun z hz => ?_, h⟩
      rcases List.mem_cons.1 hz with rfl | hz
      · omega
      · have := h1.1 z hz; omega
    · rename_i hxy
      refine List.pairwise_cons.2 ⟨fun z hz => ?_, sortIn_sorted x l h1.2⟩
      rcases List.mem_cons.1 ((sortIn_perm x l).mem_iff.1 hz) with rfl | hz
      · omega
      · exact h1.1 z hz
theorem sortZ_snoc (l : List Int) (x : Int) : sortZ (l ++ [x]) = sortIn x (sortZ l) := by unfold sortZ; rw [List.foldl_append]; rfl
theorem sortZ_both : ∀ (n : Nat) (l : List Int), l.length = n → (sortZ l).Perm l ∧ (sortZ l).Pairwise (· ≤ ·)
  | 0, l, h => by
    rw [List.eq_nil_of_length_eq_zero h]; exact ⟨List.Perm.refl _, List.Pairwise.nil⟩
  | n + 1, l, h => by
    rcases List.eq_nil_or_concat l with rfl | ⟨l', x, rfl⟩
    · cases h
    · rw [List.concat_eq_append] at h ⊢
      obtain ⟨h1, h2⟩ := sortZ_both n l' (by simpa using h)
      rw [sortZ_snoc]
      exact ⟨(sortIn_perm x _).trans ((h1.cons x).trans (List.perm_append_singleton x l').symm), sortIn_sorted x _ h2⟩
theorem sortZ_len (l : List Int) : (sortZ l).length = l.length := (sortZ_both _ l rfl).1.length_eq
theorem sortZ_M (l : List Int) : sortZ l = sortM l := by
  obtain ⟨h1, h2⟩ := sortZ_both _ l rfl
  have h3 : (sortM l).Pairwise (fun x y => decide (x ≤ y) = true) := List.pairwise_mergeSort (le := fun x y : Int => decide (x ≤ y)) (fun a b c hab hbc => by simp only [decide_eq_true_eq] at *; omega) (fun a b => by simp only [Bool.or_eq_true, decide_eq_true_eq]; omega) l
  exact List.Perm.eq_of_pairwise (fun a b _ _ h1 h2 => by simp only [decide_eq_true_eq] at *; omega) (h2.imp fun h => by simpa using h) h3 (h1.trans (List.mergeSort_perm l _).symm)
/-- Where x stands when it has gone down to place k. -/
def goneTo (S : List Int) (x : Int) (k : Nat) : List Int := S.take k ++ x :: S.drop k
theorem goneTo_len (S : List Int) (x : Int) {k : Nat} (hk : k ≤ S.length) : (goneTo S x k).length = S.length + 1 := by simp [goneTo]; omega
theorem goneTo_at (S : List Int) (x : Int) {k : Nat} (hk : k ≤ S.length) : (goneTo S x k).getD k 0 = x := by
  unfold goneTo
  have : (S.take k).length = k := by simp; omega
  simp [List.getD, List.getElem?_append, this]
theorem goneTo_pre (S : List Int) (x : Int) {k j : Nat} (hk : k ≤ S.length) (hj : j < k) : (goneTo S x k).getD j 0 = S.getD j 0 := by
  unfold goneTo
  have : (S.take k).length = k := by simp; omega
  simp [List.getD, List.getElem?_append, this, hj, List.getElem?_take, show j < S.length by omega]
theorem goneTo_swap (S : List Int) (x : Int) {k : Nat} (hk : k + 1 ≤ S.length) : ((goneTo S x (k + 1)).set k x).set (k + 1) (S.getD k 0) = goneTo S x k := by
  have hd : S.drop k = S.getD k 0 :: S.drop (k + 1) := by rw [List.drop_eq_getElem_cons (by omega)]; simp [List.getD, show k < S.length by omega]
  have ht : S.take (k + 1) = S.take k ++ [S.getD k 0] := take_succ_getD S 0 (by omega)
  have hl : (S.take k).length = k := by simp; omega
  unfold goneTo
  rw [ht, hd]
  generalize S.getD k 0 = y
  generalize hP : S.take k = P at hl ⊢
  subst hl
  simp
theorem goneTo_done {S : List Int} (hS : S.Pairwise (· ≤ ·)) {x : Int} : ∀ {k : Nat}, k ≤ S.length → (∀ y ∈ S.drop k, x < y) → (0 < k → S.getD (k - 1) 0 ≤ x) → goneTo S x k = sortIn x S := by
  induction S with
  | nil => intro k hk _ _; have : k = 0 := by simpa using hk
           subst this; rfl
  | cons y S ih =>
    intro k hk h1 h2
    have hp := List.pairwise_cons.1 hS
    cases k with
    | zero =>
      have : x < y := h1 y (by simp)
      simp [goneTo, sortIn, this]
    | succ k =>
      have hyx : ¬ x < y := by
        have h3 := h2 (by omega)
        rcases Nat.eq_zero_or_pos k with rfl | h0
        · simp at h3; omega
        · obtain ⟨k', rfl⟩ : ∃ k', k = k' + 1 := ⟨k - 1, by omega⟩
          have hk' : k' < S.length := by simp at hk; omega
          have h4 := hp.1 (S.getD k' 0) (by simp [List.getD, hk'])
          simp at h3
          simp [List.getD] at h4
          omega
      have := ih hp.2 (k := k) (by simpa using hk) (by simpa using h1) (fun h0 => by
        have h3 := h2 (by omega)
        obtain ⟨k', rfl⟩ : ∃ k', k = k' + 1 := ⟨k - 1, by omega⟩
        simpa using h3)
      have e : goneTo (y :: S) x (k + 1) = y :: goneTo S x k := by simp [goneTo]
      rw [e, this]
      conv => rhs; unfold sortIn
      rw [if_neg hyx]

/-! A list of nodes in memory of one's own. -/
theorem flat_set {α : Type} (f : α → List Value) (s : Nat) (hf : ∀ x, (f x).length = s) (u : Value) : ∀ (l : List α) (k j : Nat) (y d : α), k < l.length → j < s → f y = (f (l.getD k d)).set j u → (l.flatMap f).set (k * s + j) u = (l.set k y).flatMap f
  | [], k, _, _, _, h, _, _ => absurd h (Nat.not_lt_zero _)
  | x :: l, 0, j, y, d, _, hj, hy => by
    rw [List.set_cons_zero, List.flatMap_cons, List.flatMap_cons, Nat.zero_mul, Nat.zero_add, List.set_append_left _ _ (by rw [hf]; omega)]
    rw [hy]; rfl
  | x :: l, k + 1, j, y, d, h, hj, hy => by
    have e0 : (k + 1) * s = s + k * s := by rw [Nat.add_mul, Nat.one_mul, Nat.add_comm]
    rw [List.set_cons_succ, List.flatMap_cons, List.flatMap_cons, List.set_append_right _ _ (by rw [hf, e0]; omega)]
    have e : (k + 1) * s + j - (f x).length = k * s + j := by rw [hf, e0]; omega
    rw [e, flat_set f s hf u l k j y d (by simpa using h) hj (by simpa using hy)]
theorem zip_set {α β : Type} : ∀ (l : List α) (m : List β) (k : Nat) (x : α) (y : β), (l.set k x).zip (m.set k y) = (l.zip m).set k (x, y)
  | [], _, _, _, _ => by simp
  | _ :: _, [], _, _, _ => by simp
  | a :: l, b :: m, 0, x, y => by simp
  | a :: l, b :: m, k + 1, x, y => by simp [zip_set l m k x y]
def cellsN (L : List Nd) (sl : List (Option Addr × Nat)) : List Value := (L.zip sl).flatMap fun p => ncells p.1 p.2
theorem set_self {α : Type} (l : List α) (k : Nat) (d : α) (hk : k < l.length) : l.set k (l.getD k d) = l := by
  have : l.getD k d = l[k] := by simp [List.getD, hk]
  rw [this]; simp
theorem zip_get {L : List Nd} {sl : List (Option Addr × Nat)} (hl : sl.length = L.length) {k : Nat} (hk : k < L.length) : (L.zip sl).getD k (default, (none, 0)) = (nd L k, sl.getD k (none, 0)) := by
  have hs : k < sl.length := by omega
  have hzk : k < (L.zip sl).length := by rw [List.length_zip]; omega
  unfold nd
  rw [List.getD_eq_getElem?_getD, List.getD_eq_getElem?_getD, List.getD_eq_getElem?_getD, List.getElem?_eq_getElem hzk, List.getElem?_eq_getElem hk, List.getElem?_eq_getElem hs]
  exact List.getElem_zip
theorem cellsN_set {L : List Nd} {sl : List (Option Addr × Nat)} (hl : sl.length = L.length) {k j : Nat} (hk : k < L.length) (hj : j < 3) (u : Value) (x : Nd) (s : Option Addr × Nat) (hy : ncells x s = (ncells (nd L k) (sl.getD k (none, 0))).set j u) : (cellsN L sl).set (k * 3 + j) u = cellsN (L.set k x) (sl.set k s) := by
  unfold cellsN
  rw [zip_set]
  exact flat_set (fun p : Nd × (Option Addr × Nat) => ncells p.1 p.2) 3 (fun _ => rfl) u (L.zip sl) k j (x, s) (default, (none, 0)) (by rw [List.length_zip]; omega) hj (by rw [zip_get hl hk]; exact hy)
/-- The own slice A of n nodes is the list L; their sets lie in other blocks. -/
structure ON (B : Nat) (w : World) (A : Option Addr) (n c : Nat) (L : List Nd) (sl : List (Option Addr × Nat)) : Prop where
  len : sl.length = L.length
  num : n = L.length
  own : w.ownsRow B 43 3 (.slice A n c) n (cellsN L sl)
  set : ∀ i, i < L.length → RdI w (fun k => some k ≠ (Value.slice A n c).ownBlock) (sl.getD i (none, 0)).1 (sl.getD i (none, 0)).2 (nd L i).set
section
variable {B : Nat} {w w' : World} {A : Option Addr} {n c : Nat} {L : List Nd} {sl : List (Option Addr × Nat)}
theorem ON.rd (h : ON B w A n c L sl) (hn : n ≤ 140737488355328) : RdN w Any A c L := by
  obtain ⟨h1, rfl, h3, h4⟩ := h
  exact ⟨sl, h1, Rd.own h3 hn (fun _ _ => trivial), fun i hi => (h4 i hi).mono fun _ _ _ => trivial⟩
theorem ON.below (h : ON B w A n c L sl) (hb : Below w.heap.size w w') : ON B w' A n c L sl :=
  ⟨h.len, h.num, own_below h.own hb, fun i hi => (((h.set i hi).mono (E := fun k => k < w.heap.size ∧ some k ≠ (Value.slice A n c).ownBlock) fun k hk hl => ⟨hl, hk⟩).keep (Keeps.of_below hb fun _ h => h.1)).mono fun _ h _ => h.2⟩
theorem ON.snoc (h : ON B w A n c L sl) {w5 : World} {A5 : Option Addr} {c5 : Nat} {x : Nd} {s : Option Addr × Nat} (hg : w.grownBy w5 (Value.slice A n c).ownBlock) (ho : w5.ownsRow B 43 3 (.slice A5 (n + 1) c5) (n + 1) (cellsN L sl ++ ncells x s))
    (hat : (Value.slice A5 (n + 1) c5).ownBlock = (Value.slice A n c).ownBlock ∨ (Value.slice A5 (n + 1) c5).ownBlock = some w.heap.size) (hx : RdI w (fun k => some k ≠ (Value.slice A n c).ownBlock) s.1 s.2 x.set) : ON B w5 A5 (n + 1) c5 (L ++ [x]) (sl ++ [s]) := by
  have key : ∀ A' c' l, RdI w (fun k => some k ≠ (Value.slice A n c).ownBlock) A' c' l → RdI w5 (fun k => some k ≠ (Value.slice A5 (n + 1) c5).ownBlock) A' c' l := fun A' c' l hl => by
    refine ((hl.mono (E := fun k => k < w.heap.size ∧ some k ≠ (Value.slice A n c).ownBlock) fun k hk hl => ⟨hl, hk⟩).keep ((Keeps.refl _ _).grown hg fun k hk hd => hd.2 hk.symm)).mono fun k hk _ => ?_
    rcases hat with e | e
    · rw [e]; exact hk.2
    · rw [e]; intro e2; have := Option.some.inj e2; omega
  refine ⟨by simp [h.len], by simp [h.num], ?_, fun i hi => ?_⟩
  · have e : cellsN (L ++ [x]) (sl ++ [s]) = cellsN L sl ++ ncells x s := by
      unfold cellsN
      rw [List.zip_append h.len.symm]
      simp
    rw [e]; exact ho
  · rw [List.length_append, List.length_singleton] at hi
    unfold nd
    rw [getD_snoc L x _ i hi, getD_snoc sl s _ i (by rw [h.len]; exact hi), h.len]
    split
    · exact key _ _ _ hx
    · exact key _ _ _ (h.set i (by omega))
end
/-- A cell of a node is written. -/
theorem ON.write {B g n c : Nat} {w : World} {L : List Nd} {sl : List (Option Addr × Nat)} (h : ON B w (some ⟨g, 0, none⟩) n c L sl) {k j : Nat} (hk : k < L.length) (hj : j < 3) (u : Value) (x : Nd) (s : Option Addr × Nat) (hy : ncells x s = (ncells (nd L k) (sl.getD k (none, 0))).set j u)
    (hx : RdI w (fun k => some k ≠ some g) s.1 s.2 x.set) : ON B (w.setCell ⟨g, k * 3 + j, none⟩ u) (some ⟨g, 0, none⟩) n c (L.set k x) (sl.set k s) := by
  have hset : Keeps (fun k => some k ≠ some g) w (w.setCell ⟨g, k * 3 + j, none⟩ u) := (Keeps.refl _ w).set (fun hh => hh rfl) _
  refine ⟨by simp [h.len], by simp [h.num], ?_, fun i hi => ?_⟩
  · rw [← cellsN_set h.len hk hj u x s hy]
    exact (h.own.stored _ _).1
  · rw [List.length_set] at hi
    by_cases e : i = k
    · subst e
      have e1 : nd (L.set i x) i = x := by unfold nd; simp [List.getD, hk]
      have e2 : (sl.set i s).getD i (none, 0) = s := by simp [List.getD, h.len, hk]
      rw [e1, e2]
      exact hx.keep hset
    · have e1 : nd (L.set k x) i = nd L i := by unfold nd; simp [List.getD, Ne.symm e]
      have e2 : (sl.set k s).getD i (none, 0) = sl.getD i (none, 0) := by simp [List.getD, Ne.symm e]
      rw [e1, e2]
      exact (h.set i hi).keep hset
/-- The own slice of a list that isn't empty. -/
theorem ON.form {B n c : Nat} {w : World} {A : Option Addr} {L : List Nd} {sl : List (Option Addr × Nat)} (h : ON B w A n c L sl) (h0 : 0 < L.length) : ∃ g, A = some ⟨g, 0, none⟩ ∧ B ≤ g ∧ g < w.heap.size := by
  rcases h.own.2 with ⟨hv, hx⟩ | ⟨g, cap, cur, hv, h1, hh, h3⟩
  · exfalso
    have hn := h.num
    injection hv with _ e _
    omega
  · injection hv with e _ _
    exact ⟨g, e, h1, lt_of_block hh⟩
theorem ON.at {B g n c : Nat} {w : World} {L : List Nd} {sl : List (Option Addr × Nat)} (h : ON B w (some ⟨g, 0, none⟩) n c L sl) {k j : Nat} (hk : k < L.length) (hj : j < 3) : w.cell? ⟨g, k * 3 + j, none⟩ = (ncells (nd L k) (sl.getD k (none, 0)))[j]? ∧ w.frozen? ⟨g, k * 3 + j, none⟩ = false := by
  refine ⟨?_, h.own.frozenAt _⟩
  have hn := h.num
  rw [h.own.cellAt _ (by omega)]
  unfold cellsN
  rw [flat_at (default, ((none : Option Addr), 0)) (fun p : Nd × (Option Addr × Nat) => ncells p.1 p.2) 3 (fun _ => rfl) (L.zip sl) k j (by rw [List.length_zip, h.len]; omega) hj, zip_get h.len hk]
theorem ON.nil (w : World) : ON w.heap.size (w.alloc (.cells #[] 43)) (some ⟨w.heap.size, 0, none⟩) 0 0 [] [] := ⟨rfl, rfl, own_lit0 _ _ _, fun _ h => absurd h (Nat.not_lt_zero _)⟩
end Go.Proofs.Ythhknonaebnooaa
