/-
  Walk of the builder's form at a node that has its own operator.
-/
import Derived.Test.YtdpbgcmfeajigaaGreatDoorZ12
set_option linter.unusedSimpArgs false
set_option linter.unusedVariables false
set_option maxHeartbeats 8000000
set_option maxRecDepth 100000
namespace Go.Proofs.YtdpbgcmfeajigaaGreatDoor
open Go.RowKit Go.Shelf
attribute [local go_sem] qab qdl qez qdm
theorem OB.cells {w:World} {ob:Nat} {o:Int} {n:ByteArray} {v b:Int} {A:Option Addr} {k c:Nat} (h:OB w ob o n v b A k c):w.cell? ⟨ob,0,none⟩=some (.int .i64 o)∧w.cell? ⟨ob,1,none⟩=some (.string n)∧w.cell? ⟨ob,2,none⟩=some (.int .i64 v)∧w.cell? ⟨ob,3,none⟩=some (.int .i64 b)∧w.cell? ⟨ob,4,none⟩=some (.slice A k c)∧ob < w.heap.size :=
 ⟨qaa h rfl,qaa h rfl,qaa h rfl,qaa h rfl,qaa h rfl,lt_of_block h⟩
theorem OB.free {w:World} {ob:Nat} {o:Int} {n:ByteArray} {v b:Int} {A:Option Addr} {k c:Nat} (h:OB w ob o n v b A k c) (i:Nat):w.frozen? ⟨ob,i,none⟩=false:=qad h
theorem qa3.zero {bb rb:Nat} {k:Fm} {left left':Int} {w w':World} (hc:Chg (fun x=>x=bb) w w') (hb:BB w' bb left' true) (hl:left'≤left) (hm : -1≤left') :
  qa3 bb k left true w (.returned (.agg #[.int .i64 0,.string ⟨#[]⟩,.int .i64 0,.int .i64 0,.slice none 0 0])) w' :=
 ⟨hc,_,qbs,left',rfl,⟨none,0,rfl,RdA.nil _ _ _ (by omega)⟩,hb,hl,hm,fun h=>by cases h⟩
theorem form_gen (bb:Nat) (f:Fm) (hs:qaz f=true) (ih : ∀ g,g∈f.args→FormC bb g) (h4:f.op≠4) (h13:f.op≠13) (h14:f.op≠14)
  {D:Dom} {b o:Nat} {A:Option Addr} {c:Nat} {neg:Bool} {left d:Int} {w:World} (h3:f.op=3→neg=false)
  (h:qcp w D b o f A c) (hD : ∀ k,D k→k≠bb) (hB:BB w bb left false) (hl0:0≤left) (hl2:left≤1000000) (hd1 : -1000000≤d) (hd2:d≤1000000) :
  Calls Tryz.prog 73 #[.pointer (some ⟨bb,0,none⟩),.pointer (some ⟨b,o,none⟩),.bool neg,.int .i64 d] w (qa3 bb (kf neg f) left (!qa4 (kf neg f) left d) w):=by
 have HH:=hid h
 have HD:=hid hD
 have HB:=hid hB
 have HIH:=hid ih
 have hbl:=lt_of_block hB
 have hlt:=h.lt
 have hbne:=hD b h.dom
 clear hB h ih
 have e4:=qac h4
 have e13:=qac h13
 have e14:=qac h14
 go_enter Tryz.func73,Tryz.ntmps73
 go_upto_region 1 with (fail)
 refine qai fun W hW => ?_
 have HW:=hid (show Chg (fun x=>x=bb) w W by rw [hW];exact (Chg.refl _ w).alloc _)
 have HRES:=hid (show OB W w.heap.size 0 ⟨#[]⟩ 0 0 none 0 0 by rw [hW];exact at_new _ _ _ rfl)
 have HBW:=hid (HB.out.below (show Below w.heap.size w W by rw [hW];go_grown))
 have HT:=hid (take_any bb left d false W HBW.out (by omega) (by omega))
 have HSZ:=hid (show W.heap.size=w.heap.size+1 by rw [hW];simp)
 clear hW
 rename_i K11 hK11 K1 hK1
 refine qdr K11 (List.range' 12 76) (fun _ W'=>W'=W) ?_ ?_
 rotate_left
 ·--<<
  intro HTAIL
  clear hK11
  have HTL:=hid HTAIL
  have b1:=qaa HBW.out (i:=1) rfl
  obtain ⟨_,hl1,c0,c1,c2,c3,c4,_⟩:=HH.out.keep (HW.out.keeps fun k _ hk hv=>HD.out k hk hv)
  clear HTAIL
  by_cases hq3:f.op=3
  ·have hn:=h3 hq3
   subst hn
   have e3:(f.op == 3)=true:=by rw [hq3];rfl
   clear hq3 h3
   go_wp2_with fail
   refine qak HTL.out rfl ?_
   kernel_rfl
  ·have e3:=qac hq3
   clear hq3 h3
   go_wp2_with fail
   refine qak HTL.out rfl ?_
   kernel_rfl
  -->>
 ·intro us W1 hW1
  obtain rfl:=hW1
  apply hK11
  clear hK1 hK11 K1 K11
  simp only [qdu,List.range',List.range'_succ,Act.put,List.setIfInBounds_toArray,List.set_cons_zero,List.set_cons_succ]
  cases htk:qb4 left false d <;> rw [htk] at HT <;> (have HTK:=hid htk) <;> clear htk
  rotate_left
  ·obtain ⟨rb,hrb⟩ : ∃ rb,rb=w.heap.size:=⟨_,rfl⟩
   rw [←hrb] at HRES ⊢
   have hrne : ¬ rb=bb:=by omega
   have HRB:=hid hrb
   clear hrb
   go_wp2_with (first | (go_at_call 110;refine HT.out.mono ?_;rintro e w1 ⟨rfl,hc1,hb1⟩;obtain ⟨r0,r1,r2,r3,r4,rl⟩:=(HRES.out.chg hc1 hrne).cells;have p0:=(HRES.out.chg hc1 hrne).free 0;have p1:=(HRES.out.chg hc1 hrne).free 1;have p2:=(HRES.out.chg hc1 hrne).free 2;have p3:=(HRES.out.chg hc1 hrne).free 3;have p4:=(HRES.out.chg hc1 hrne).free 4))
   refine qag fun WE hWE => ?_
   have ho5:=HRES.out.chg hc1 hrne
   have hoE:OB WE rb 0 ⟨#[]⟩ 0 0 none 0 0:=by rw [hWE];exact qaq ho5
   have hcE:Chg (fun x=>x=rb) w1 WE:=by rw [hWE];exact qaj _ _ _ _ _ _ _
   obtain ⟨y0,y1,y2,y3,y4,yl⟩:=hoE.cells
   have hov:(!qa4 (kf neg f) left d)=true:=by rw [kf_node hs h4 h13 h14 h3,fits_mk];exact ovL_take HTK.out
   clear hWE r0 r1 r2 r3 r4 p0 p1 p2 p3 p4
   rw [hov]
   exact bodyPost_ret (v := .agg #[.int .i64 0,.string ⟨#[]⟩,.int .i64 0,.int .i64 0,.slice none 0 0]) (by simp [results,Tryz.results73,go_sem,y0,y1,y2,y3,y4]) rfl
    (qa3.zero (rb:=0) ((HW.out.trans hc1).trans' hcE fun x hx h=>by have:=HRB.out;omega) (BB.chg hb1 hcE (fun h=>hrne h.symm)) (by omega) (by omega))
  ·go_upto_region 13 with (first | (go_at_call 110;refine HT.out.mono ?_;rintro e w1 ⟨rfl,hc1,hb1⟩))
   rename_i K14 hK14
   have HC1:=hid (HW.out.trans hc1)
   have HB1:=hid hb1
   have HR1:=hid (HRES.out.chg hc1 (by omega))
   have HS1:=hid (show w.heap.size+1≤w1.heap.size by have:=hc1.size;have:=HSZ.out;omega)
   obtain ⟨_,hl1,c0,c1,c2,c3,c4,_⟩:=HH.out.keep (HC1.out.keeps fun k _ hk hv=>HD.out k hk hv)
   clear hc1 hb1
   obtain ⟨ob,hob⟩ : ∃ ob,ob=w1.heap.size:=⟨_,rfl⟩
   have HOB:=hid hob
   refine qdr K14 (9 :: List.range' 93 14) (fun us W'=>us 9 = .pointer (some ⟨ob,0,none⟩)∧Chg (fun x=>x=bb) w1 W'∧OB W' ob (fullZ f.op) f.name f.val 0 none 0 0∧ob < W'.heap.size∧BB W' bb (left - 1) false) ?_ ?_
   rotate_left
   ·--<<
    intro HTAIL
    have HTL:=hid HTAIL
    clear HTAIL hK14 hob
    go_region_held3 (fun W':World=>W'.cell? ⟨b,o,none⟩=some (.int .i64 f.op)∧W'.cell? ⟨b,o+1,none⟩=some (.string f.name)∧W'.cell? ⟨b,o+2,none⟩=some (.int .i64 f.val))
     (first | (go_keep;done))
     ((go_at_call 112;with_reducible refine (full_any f.op _).mono ?_;rintro e w9 ⟨rfl,hw9⟩;rw [hw9];clear hw9))
    all_goals
     show K14 _ _
     refine K_gen fun W13 hW13 => ?_
     refine qak HTL.out ⟨by rw [HOB.out];rfl,?_,?_,?_,?_⟩ ?_
     ·rw [hW13];exact ((Chg.refl _ w1).alloc _).drew
     ·rw [hW13,HOB.out];exact at_new _ _ _ rfl
     ·rw [hW13,HOB.out];simp
     ·rw [hW13];exact (qan _ _ _ (lt_of_block HB1.out)).trans HB1.out
     ·kernel_rfl
    -->>
   ·rintro us2 W13 ⟨hu9,hc13,ho13,hl13,hb13⟩
    apply hK14
    simp only [qdu,List.range',List.range'_succ,Act.put,List.setIfInBounds_toArray,List.set_cons_zero,List.set_cons_succ]
    rw [hu9]
    clear hK14 c0 c1 c2 c3 c4 hl1
    have hobne : ¬ ob=bb:=by have:=HS1.out;omega
    have HOB1:=hid hob
    clear hob
    have HC13:=hid hc13
    have HO13:=hid ho13
    have HB13:=hid hb13
    obtain ⟨x0,x1,x2,x3,x4,xl⟩:=HO13.out.cells
    have y0:=HO13.out.free 0
    have hob0:=hl13
    clear hc13 ho13 hb13
    go_upto_region 14 with (fail)
    rename_i K16 hK16 K15 hK15
    refine qdr K16 (List.range' 107 5) (fun us W'=>Chg (fun x=>x=bb) w1 W'∧OB W' ob (qbc neg f.op) f.name f.val 0 none 0 0∧BB W' bb (left - 1) false) ?_ ?_
    rotate_left
    ·--<<
     intro HTAIL
     have HTL:=hid HTAIL
     clear HTAIL hK16
     cases neg
     ·go_wp2_with fail
      refine qak HTL.out ⟨HC13.out,HO13.out,HB13.out⟩ ?_
      kernel_rfl
     ·go_wp2_with (first | (go_at_call 113;refine (dual_any _ _).mono ?_;rintro e w9 ⟨rfl,hw9⟩;rw [hw9];clear hw9))
      refine qak HTL.out ⟨?_,?_,?_⟩ ?_
      ·exact HC13.out.set ⟨ob,0,none⟩ _ fun h=>by have:=HOB1.out;simp only [] at h;omega
      ·unfold OB
       rw [qae HO13.out];rfl
      ·exact BB.chg HB13.out ((Chg.refl (fun x=>x=ob) W13).set ⟨ob,0,none⟩ _ fun _=>rfl) (fun h=>hobne h.symm)
      ·kernel_rfl
     -->>
    ·rintro us3 W16 ⟨hc16,ho16,hb16⟩
     apply hK16
     simp only [qdu,List.range',List.range'_succ,Act.put,List.setIfInBounds_toArray,List.set_cons_zero,List.set_cons_succ]
     clear hK16 hK15 K16 K15 x0 x1 x2 x3 x4 xl y0 HO13 HC13 hl13
     have HC16:=hid hc16
     have HO16:=hid ho16
     have HBB:=hid hb16
     obtain ⟨x0,x1,x2,x3,x4,xl⟩:=ho16.cells
     have y2:=ho16.free 2
     obtain ⟨_,hl16,c0,c1,c2,c3,c4,_⟩:=HH.out.keep ((HC1.out.trans hc16).keeps fun k _ hk hv=>HD.out k hk hv)
     have HLF:=hid (show 1≤left∧1≤d by have:=HTK.out;unfold qb4 at this;simp at this;omega)
     have HOB16:=hid (show ob+1≤W16.heap.size from xl)
     clear hc16 ho16 hb16
     go_upto_region 16 with (fail)
     rename_i K27 hK27 K17 hK17
     refine qdr K27 (List.range' 112 23) (fun us W'=>FormI bb ob w1 (qbc neg f.op) f.name (qe7 neg f.op f.val) left d (qgv neg f.op) 1 W') ?_ ?_
     rotate_left
     ·--<<
      intro HTAIL
      have HTL:=hid HTAIL
      clear HTAIL hK27
      by_cases hop:f.op=15
      ·have e15:(f.op == 15)=true:=by rw [hop];rfl
       have hvb:0≤f.val∧f.val≤1:=by have:=qdf hs;rw [hop] at this;exact ⟨this.2.2.2.1,this.2.2.2.2.1⟩
       have hwv:=IntWalk.i64_in (1 - f.val) (by omega)
       have HV:=hid (show qe7 neg f.op f.val=(if neg then 1 - f.val else f.val) by rw [hop];cases neg <;> rfl)
       have HL:=hid (show qgv neg f.op = [] by rw [hop];rfl)
       have e16:(f.op == 16)=false:=by rw [hop];rfl
       have e17:(f.op == 17)=false:=by rw [hop];rfl
       have e11:(f.op == 11)=false:=by rw [hop];rfl
       have e12:(f.op == 12)=false:=by rw [hop];rfl
       have e18:(f.op == 18)=false:=by rw [hop];rfl
       have e19:(f.op == 19)=false:=by rw [hop];rfl
       clear hop h4 h13 h14
       cases neg
       ·go_wp2_with fail
        refine qak HTL.out ?_ ?_
        ·exact ⟨HC16.out,f.val,none,0,[],[],left - 1,HO16.out,qbm.nil _ _,by rw [HL.out,qgr,HTK.out];exact HBB.out,Nat.zero_le _,by omega,by omega,fun _=>⟨HV.out.symm,HL.out.symm,by rw [HL.out];simp [sizes],by have:=HLF.out;omega⟩⟩
        ·kernel_rfl
       ·go_wp2_with fail
        refine qak HTL.out ?_ ?_
        ·refine ⟨HC16.out.set ⟨ob,2,none⟩ _ fun h=>by have:=HOB1.out;simp only [] at h;omega,1 - f.val,none,0,[],[],left - 1,?_,qbm.nil _ _,?_,Nat.zero_le _,by omega,by omega,fun _=>⟨HV.out.symm,HL.out.symm,by rw [HL.out];simp [sizes],by have:=HLF.out;omega⟩⟩
         ·unfold OB
          rw [qae HO16.out];rfl
         ·rw [HL.out,qgr,HTK.out]
          exact BB.chg HBB.out ((Chg.refl (fun x=>x=ob) W16).set ⟨ob,2,none⟩ _ fun _=>rfl) (fun h=>hobne h.symm)
        ·kernel_rfl
      have e15:=qac hop
      have n15:=hop
      clear hop
      by_cases hop:f.op=16
      ·have e16:(f.op == 16)=true:=by rw [hop];rfl
       have hvb:0≤f.val∧f.val≤1:=by have:=qdf hs;rw [hop] at this;exact ⟨this.2.2.2.1,this.2.2.2.2.1⟩
       have hwv:=IntWalk.i64_in (1 - f.val) (by omega)
       have HV:=hid (show qe7 neg f.op f.val=(if neg then 1 - f.val else f.val) by rw [hop];cases neg <;> rfl)
       have HL:=hid (show qgv neg f.op = [] by rw [hop];rfl)
       have e15:(f.op == 15)=false:=by rw [hop];rfl
       have e17:(f.op == 17)=false:=by rw [hop];rfl
       have e11:(f.op == 11)=false:=by rw [hop];rfl
       have e12:(f.op == 12)=false:=by rw [hop];rfl
       have e18:(f.op == 18)=false:=by rw [hop];rfl
       have e19:(f.op == 19)=false:=by rw [hop];rfl
       clear hop h4 h13 h14
       cases neg
       ·go_wp2_with fail
        refine qak HTL.out ?_ ?_
        ·exact ⟨HC16.out,f.val,none,0,[],[],left - 1,HO16.out,qbm.nil _ _,by rw [HL.out,qgr,HTK.out];exact HBB.out,Nat.zero_le _,by omega,by omega,fun _=>⟨HV.out.symm,HL.out.symm,by rw [HL.out];simp [sizes],by have:=HLF.out;omega⟩⟩
        ·kernel_rfl
       ·go_wp2_with fail
        refine qak HTL.out ?_ ?_
        ·refine ⟨HC16.out.set ⟨ob,2,none⟩ _ fun h=>by have:=HOB1.out;simp only [] at h;omega,1 - f.val,none,0,[],[],left - 1,?_,qbm.nil _ _,?_,Nat.zero_le _,by omega,by omega,fun _=>⟨HV.out.symm,HL.out.symm,by rw [HL.out];simp [sizes],by have:=HLF.out;omega⟩⟩
         ·unfold OB
          rw [qae HO16.out];rfl
         ·rw [HL.out,qgr,HTK.out]
          exact BB.chg HBB.out ((Chg.refl (fun x=>x=ob) W16).set ⟨ob,2,none⟩ _ fun _=>rfl) (fun h=>hobne h.symm)
        ·kernel_rfl
      have e16:=qac hop
      have n16:=hop
      clear hop
      by_cases hop:f.op=17
      ·have e17:(f.op == 17)=true:=by rw [hop];rfl
       have hvb:0≤f.val∧f.val≤1:=by have:=qdf hs;rw [hop] at this;exact ⟨this.2.2.2.1,this.2.2.2.2.1⟩
       have hwv:=IntWalk.i64_in (1 - f.val) (by omega)
       have HV:=hid (show qe7 neg f.op f.val=(if neg then 1 - f.val else f.val) by rw [hop];cases neg <;> rfl)
       have HL:=hid (show qgv neg f.op = [] by rw [hop];rfl)
       have e15:(f.op == 15)=false:=by rw [hop];rfl
       have e16:(f.op == 16)=false:=by rw [hop];rfl
       have e11:(f.op == 11)=false:=by rw [hop];rfl
       have e12:(f.op == 12)=false:=by rw [hop];rfl
       have e18:(f.op == 18)=false:=by rw [hop];rfl
       have e19:(f.op == 19)=false:=by rw [hop];rfl
       clear hop h4 h13 h14
       cases neg
       ·go_wp2_with fail
        refine qak HTL.out ?_ ?_
        ·exact ⟨HC16.out,f.val,none,0,[],[],left - 1,HO16.out,qbm.nil _ _,by rw [HL.out,qgr,HTK.out];exact HBB.out,Nat.zero_le _,by omega,by omega,fun _=>⟨HV.out.symm,HL.out.symm,by rw [HL.out];simp [sizes],by have:=HLF.out;omega⟩⟩
        ·kernel_rfl
       ·go_wp2_with fail
        refine qak HTL.out ?_ ?_
        ·refine ⟨HC16.out.set ⟨ob,2,none⟩ _ fun h=>by have:=HOB1.out;simp only [] at h;omega,1 - f.val,none,0,[],[],left - 1,?_,qbm.nil _ _,?_,Nat.zero_le _,by omega,by omega,fun _=>⟨HV.out.symm,HL.out.symm,by rw [HL.out];simp [sizes],by have:=HLF.out;omega⟩⟩
         ·unfold OB
          rw [qae HO16.out];rfl
         ·rw [HL.out,qgr,HTK.out]
          exact BB.chg HBB.out ((Chg.refl (fun x=>x=ob) W16).set ⟨ob,2,none⟩ _ fun _=>rfl) (fun h=>hobne h.symm)
        ·kernel_rfl
      have e17:=qac hop
      have n17:=hop
      clear hop
      by_cases hop:f.op=11
      ·have e11:(f.op == 11)=true:=by rw [hop];rfl
       have h1:qim f.op=true:=by rw [hop];rfl
       have HV:=hid (qkq (neg:=neg) (v:=f.val) h1 (by rw [hop];rfl))
       have HL:=hid (qij (neg:=neg) h1)
       have HLO:=hid (qkr bb ob (qbc neg f.op) f.name f.val (left - 1) d false W16 (fun h=>hobne h.symm) HBB.out HO16.out (by have:=HLF.out;omega) (by omega) hd1 hd2)
       clear h1
       have e15:(f.op == 15)=false:=by rw [hop];rfl
       have e16:(f.op == 16)=false:=by rw [hop];rfl
       have e17:(f.op == 17)=false:=by rw [hop];rfl
       have e12:(f.op == 12)=false:=by rw [hop];rfl
       have e18:(f.op == 18)=false:=by rw [hop];rfl
       have e19:(f.op == 19)=false:=by rw [hop];rfl
       clear hop h4 h13 h14
       go_wp2_with (first | (go_at_call 114;refine HLO.out.mono ?_;rintro e w9 ⟨⟨r9,rfl⟩,hlo⟩))
       refine qak HTL.out ?_ ?_
       ·rw [HL.out]
        obtain ⟨q1,q2,q3,q4⟩:=hlo
        have hov:ovL [opF (qfk (qbc neg f.op)) []] left d=qb4 (left - 1) false (d - 1):=by rw [ovL_one _ rfl,HTK.out];rfl
        have hch:Chg (fun x=>x=bb) w1 w9:=HC16.out.trans' q1 fun k hk h=>by have:=HOB1.out;omega
        cases htk2:qb4 (left - 1) false (d - 1)
        ·rw [htk2] at q2 q4 hov
         obtain ⟨A2,c2,q5,q6⟩:=q4 rfl
         have hl2:0≤left - 1 - 1:=by
          unfold qb4 at htk2
          simp at htk2
          omega
         exact ⟨hch,_,A2,c2,_,_,left - 1 - 1,q5,q6.base HOB16.out,by rw [hov];exact q2,Nat.le_refl _,by omega,by omega,fun _=>⟨HV.out.symm,rfl,by simp [sizes,opF,Fm.size];omega,hl2⟩⟩
        ·rw [htk2] at q2 q3 hov
         exact ⟨hch,_,none,0,[],[],left - 1 - 1,q3 rfl,qbm.nil _ _,by rw [hov];exact q2,Nat.zero_le _,by omega,by have:=HLF.out;omega,fun h=>by rw [hov] at h;cases h⟩
       ·kernel_rfl
      have e11:=qac hop
      have n11:=hop
      clear hop
      by_cases hop:f.op=12
      ·have e12:(f.op == 12)=true:=by rw [hop];rfl
       have h1:qim f.op=true:=by rw [hop];rfl
       have HV:=hid (qkq (neg:=neg) (v:=f.val) h1 (by rw [hop];rfl))
       have HL:=hid (qij (neg:=neg) h1)
       have HLO:=hid (qkr bb ob (qbc neg f.op) f.name f.val (left - 1) d false W16 (fun h=>hobne h.symm) HBB.out HO16.out (by have:=HLF.out;omega) (by omega) hd1 hd2)
       clear h1
       have e15:(f.op == 15)=false:=by rw [hop];rfl
       have e16:(f.op == 16)=false:=by rw [hop];rfl
       have e17:(f.op == 17)=false:=by rw [hop];rfl
       have e11:(f.op == 11)=false:=by rw [hop];rfl
       have e18:(f.op == 18)=false:=by rw [hop];rfl
       have e19:(f.op == 19)=false:=by rw [hop];rfl
       clear hop h4 h13 h14
       go_wp2_with (first | (go_at_call 114;refine HLO.out.mono ?_;rintro e w9 ⟨⟨r9,rfl⟩,hlo⟩))
       refine qak HTL.out ?_ ?_
       ·rw [HL.out]
        obtain ⟨q1,q2,q3,q4⟩:=hlo
        have hov:ovL [opF (qfk (qbc neg f.op)) []] left d=qb4 (left - 1) false (d - 1):=by rw [ovL_one _ rfl,HTK.out];rfl
        have hch:Chg (fun x=>x=bb) w1 w9:=HC16.out.trans' q1 fun k hk h=>by have:=HOB1.out;omega
        cases htk2:qb4 (left - 1) false (d - 1)
        ·rw [htk2] at q2 q4 hov
         obtain ⟨A2,c2,q5,q6⟩:=q4 rfl
         have hl2:0≤left - 1 - 1:=by
          unfold qb4 at htk2
          simp at htk2
          omega
         exact ⟨hch,_,A2,c2,_,_,left - 1 - 1,q5,q6.base HOB16.out,by rw [hov];exact q2,Nat.le_refl _,by omega,by omega,fun _=>⟨HV.out.symm,rfl,by simp [sizes,opF,Fm.size];omega,hl2⟩⟩
        ·rw [htk2] at q2 q3 hov
         exact ⟨hch,_,none,0,[],[],left - 1 - 1,q3 rfl,qbm.nil _ _,by rw [hov];exact q2,Nat.zero_le _,by omega,by have:=HLF.out;omega,fun h=>by rw [hov] at h;cases h⟩
       ·kernel_rfl
      have e12:=qac hop
      have n12:=hop
      clear hop
      by_cases hop:f.op=18
      ·have e18:(f.op == 18)=true:=by rw [hop];rfl
       have h1:qim f.op=true:=by rw [hop];rfl
       have HV:=hid (qkq (neg:=neg) (v:=f.val) h1 (by rw [hop];rfl))
       have HL:=hid (qij (neg:=neg) h1)
       have HLO:=hid (qkr bb ob (qbc neg f.op) f.name f.val (left - 1) d false W16 (fun h=>hobne h.symm) HBB.out HO16.out (by have:=HLF.out;omega) (by omega) hd1 hd2)
       clear h1
       have e15:(f.op == 15)=false:=by rw [hop];rfl
       have e16:(f.op == 16)=false:=by rw [hop];rfl
       have e17:(f.op == 17)=false:=by rw [hop];rfl
       have e11:(f.op == 11)=false:=by rw [hop];rfl
       have e12:(f.op == 12)=false:=by rw [hop];rfl
       have e19:(f.op == 19)=false:=by rw [hop];rfl
       clear hop h4 h13 h14
       go_wp2_with (first | (go_at_call 114;refine HLO.out.mono ?_;rintro e w9 ⟨⟨r9,rfl⟩,hlo⟩))
       refine qak HTL.out ?_ ?_
       ·rw [HL.out]
        obtain ⟨q1,q2,q3,q4⟩:=hlo
        have hov:ovL [opF (qfk (qbc neg f.op)) []] left d=qb4 (left - 1) false (d - 1):=by rw [ovL_one _ rfl,HTK.out];rfl
        have hch:Chg (fun x=>x=bb) w1 w9:=HC16.out.trans' q1 fun k hk h=>by have:=HOB1.out;omega
        cases htk2:qb4 (left - 1) false (d - 1)
        ·rw [htk2] at q2 q4 hov
         obtain ⟨A2,c2,q5,q6⟩:=q4 rfl
         have hl2:0≤left - 1 - 1:=by
          unfold qb4 at htk2
          simp at htk2
          omega
         exact ⟨hch,_,A2,c2,_,_,left - 1 - 1,q5,q6.base HOB16.out,by rw [hov];exact q2,Nat.le_refl _,by omega,by omega,fun _=>⟨HV.out.symm,rfl,by simp [sizes,opF,Fm.size];omega,hl2⟩⟩
        ·rw [htk2] at q2 q3 hov
         exact ⟨hch,_,none,0,[],[],left - 1 - 1,q3 rfl,qbm.nil _ _,by rw [hov];exact q2,Nat.zero_le _,by omega,by have:=HLF.out;omega,fun h=>by rw [hov] at h;cases h⟩
       ·kernel_rfl
      have e18:=qac hop
      have n18:=hop
      clear hop
      by_cases hop:f.op=19
      ·have e19:(f.op == 19)=true:=by rw [hop];rfl
       have h1:qim f.op=true:=by rw [hop];rfl
       have HV:=hid (qkq (neg:=neg) (v:=f.val) h1 (by rw [hop];rfl))
       have HL:=hid (qij (neg:=neg) h1)
       have HLO:=hid (qkr bb ob (qbc neg f.op) f.name f.val (left - 1) d false W16 (fun h=>hobne h.symm) HBB.out HO16.out (by have:=HLF.out;omega) (by omega) hd1 hd2)
       clear h1
       have e15:(f.op == 15)=false:=by rw [hop];rfl
       have e16:(f.op == 16)=false:=by rw [hop];rfl
       have e17:(f.op == 17)=false:=by rw [hop];rfl
       have e11:(f.op == 11)=false:=by rw [hop];rfl
       have e12:(f.op == 12)=false:=by rw [hop];rfl
       have e18:(f.op == 18)=false:=by rw [hop];rfl
       clear hop h4 h13 h14
       go_wp2_with (first | (go_at_call 114;refine HLO.out.mono ?_;rintro e w9 ⟨⟨r9,rfl⟩,hlo⟩))
       refine qak HTL.out ?_ ?_
       ·rw [HL.out]
        obtain ⟨q1,q2,q3,q4⟩:=hlo
        have hov:ovL [opF (qfk (qbc neg f.op)) []] left d=qb4 (left - 1) false (d - 1):=by rw [ovL_one _ rfl,HTK.out];rfl
        have hch:Chg (fun x=>x=bb) w1 w9:=HC16.out.trans' q1 fun k hk h=>by have:=HOB1.out;omega
        cases htk2:qb4 (left - 1) false (d - 1)
        ·rw [htk2] at q2 q4 hov
         obtain ⟨A2,c2,q5,q6⟩:=q4 rfl
         have hl2:0≤left - 1 - 1:=by
          unfold qb4 at htk2
          simp at htk2
          omega
         exact ⟨hch,_,A2,c2,_,_,left - 1 - 1,q5,q6.base HOB16.out,by rw [hov];exact q2,Nat.le_refl _,by omega,by omega,fun _=>⟨HV.out.symm,rfl,by simp [sizes,opF,Fm.size];omega,hl2⟩⟩
        ·rw [htk2] at q2 q3 hov
         exact ⟨hch,_,none,0,[],[],left - 1 - 1,q3 rfl,qbm.nil _ _,by rw [hov];exact q2,Nat.zero_le _,by omega,by have:=HLF.out;omega,fun h=>by rw [hov] at h;cases h⟩
       ·kernel_rfl
      have e19:=qac hop
      have n19:=hop
      clear hop
      have HVL:=hid (valOut_other (neg:=neg) (v:=f.val) n15 n16 n17 n11 n12 n18 n19)
      clear n15 n16 n17 n11 n12 n18 n19 h4 h13 h14
      go_wp2_with fail
      refine qak HTL.out ?_ ?_
      ·exact ⟨HC16.out,f.val,none,0,[],[],left - 1,HO16.out,qbm.nil _ _,by rw [HVL.out.2,qgr,HTK.out];exact HBB.out,Nat.zero_le _,by omega,by have:=HLF.out;omega,fun _=>⟨HVL.out.1.symm,HVL.out.2.symm,by rw [HVL.out.2];simp [sizes],by have:=HLF.out;omega⟩⟩
      ·kernel_rfl
      -->>
     ·rintro us4 W27 hI
      apply hK27
      simp only [qdu,List.range',List.range'_succ,Act.put,List.setIfInBounds_toArray,List.set_cons_zero,List.set_cons_succ]
      clear hK27 hK17 K27 K17 x0 x1 x2 x3 x4 xl y2 c0 c1 c2 c3 c4 hl16
      obtain ⟨l1,l2,c0,c1,c2,c3,c4,l3⟩:=HH.out.keep ((HC1.out.trans hI.chg).keeps fun k _ hk hv=>HD.out k hk hv)
      have hal:=l3.len.1
      have HI:=hid hI
      have HLEN:=hid (show f.args.length≤manyN from by
       have h0:=(qdf hs).2.2.1
       have h1:(qal f.op).most≤manyN:=by
        have:=(qdf hs).1
        rcases qfl this with e | e | e | e | e | e | e | e | e | e | e | e | e | e | e | e | e | e | e <;> rw [e] <;> decide
       omega)
      clear hI l3
      go_wp2_with fail
      go_loopw [140] (fun q wr => ∃ i:Nat,i≤f.args.length∧q = .int .i64 (i:Int)∧FormI bb ob w1 (qbc neg f.op) f.name (qe7 neg f.op f.val) left d (qgv neg f.op ++ (kfs (qhx neg f.op) (qhp neg f.op) f.args).take i) (1+i) wr) (fun q _=>f.args.length - (intOf q).toNat)
      case atStart=>exact ⟨0,Nat.zero_le _,rfl,by simpa using HI.out⟩
      case round =>
       obtain ⟨i,hi,rfl,hI⟩:=hrel
       obtain ⟨hic,v',A2,c2',gs,sl,left',ho,hr,hb,hgl,hll,hlm,hov⟩:=hI
       have HIC:=hid hic
       have HO:=hid ho
       have HR:=hid hr
       have HBR:=hid hb
       have HOV:=hid hov
       have HHR:=hid (HH.out.keep ((HC1.out.trans hic).keeps fun k _ hk hv=>HD.out k hk hv))
       clear hic ho hr hb hov c0 c1 c2 c3 c4 l1 l2
       by_cases hlt:i < f.args.length
       ·have hii:(i:Int) < f.args.length:=by omega
        obtain ⟨tn,htn⟩ : ∃ tn,tn=(if i=0 then qhx neg f.op else qhp neg f.op):=⟨_,rfl⟩
        have HTN:=hid htn
        have HARGS:=hid HHR.out.args
        obtain ⟨l1,l2,c0,c1,c2,c3,c4,l3⟩:=HHR.out
        clear l3 htn
        go_upto_region 30 with (fail)
        rename_i K31 hK31
        refine qdr K31 (11 :: List.range' 143 11) (fun us W'=>us 11 = .bool tn∧W'=wr) ?_ ?_
        rotate_left
        ·intro HTAIL
         have HTL:=hid HTAIL
         clear HTAIL hK31
         by_cases h7:f.op=7
         ·have e7:(f.op == 7)=true:=by rw [h7];rfl
          by_cases hi0:i=0
          ·subst hi0
           have HTV:=hid (show tn = !neg by rw [HTN.out,if_pos rfl,h7];cases neg <;> rfl)
           clear h7
           go_wp2_with fail
           refine qak HTL.out ⟨?_,rfl⟩ ?_
           ·rw [HTV.out];cases neg <;> rfl
           ·kernel_rfl
          ·have hi0':((i:Int) == 0)=false:=by rw [beq_eq_false_iff_ne];omega
           have HTV:=hid (show tn=neg by rw [HTN.out,if_neg hi0];unfold qhp;rw [if_neg h4])
           clear h7 hi0
           go_wp2_with fail
           refine qak HTL.out ⟨?_,rfl⟩ ?_
           ·rw [HTV.out];cases neg <;> rfl
           ·kernel_rfl
         ·have e7:=qac h7
          have HTV:=hid (show tn=neg by
           rw [HTN.out]
           have h0:qhx neg f.op=neg:=by unfold qhx;rw [if_neg (by omega)]
           have h1:qhp neg f.op=neg:=by unfold qhp;rw [if_neg h4]
           rw [h0,h1];split <;> rfl)
          clear h7
          go_wp2_with fail
          refine qak HTL.out ⟨?_,rfl⟩ ?_
          ·rw [HTV.out];cases neg <;> rfl
          ·kernel_rfl
        ·rintro us5 W31 ⟨hu11,hw31⟩
         subst hw31
         apply hK31
         simp only [qdu,List.range',List.range'_succ,Act.put,List.setIfInBounds_toArray,List.set_cons_zero,List.set_cons_succ]
         rw [hu11]
         clear hK31 K31
         obtain ⟨b1,o1,A',c1',g,rfl,HX,hg⟩:=HARGS.out.get hlt
         have hgm:g∈f.args:=by
          have:=HX.out
          rw [←this]
          simp [List.getD,hlt]
         have HLF2:=hid (show 1≤d by have:=HLF.out;omega)
         have hwd:=IntWalk.i64_in (d - 1) (by omega)
         obtain ⟨kg,hkg⟩ : ∃ kg,kg=kf tn g:=⟨_,rfl⟩
         obtain ⟨ov,hov⟩ : ∃ ov,ov=ovL (qgv neg f.op ++ (kfs (qhx neg f.op) (qhp neg f.op) f.args).take i) left d:=⟨_,rfl⟩
         rw [←hov] at HBR HOV
         have HOVE:=hid hov
         have HCALL:Hid (∀ W',Below W31.heap.size W31 W'→Calls Tryz.prog 73 #[.pointer (some ⟨bb,0,none⟩),.pointer (some ⟨b1,o1+i * 5,none⟩),.bool tn,.int .i64 (d - 1)] W' fun e w5 =>
           ∃ g' A5 c5 left5,e = .returned (.agg #[.int .i64 g'.op,.string g'.name,.int .i64 g'.val,.int .i64 g'.bound,.slice A5 g'.args.length c5])∧Chg (fun x=>x=bb) W' w5∧Chg (fun x=>x=bb) w1 w5∧OB w5 ob (qbc neg f.op) f.name v' 0 A2 gs.length c2'∧qbm w5 (ob+1) A2 c2' gs sl ∧
            BB w5 bb left5 (ov || !qa4 kg left' (d - 1))∧RdA w5 (fun x=>Nw (ob+1) w5 x∧(Value.slice A2 gs.length c2').ownBlock≠some x) g'.args A5 c5∧left5≤left' ∧ -1≤left5∧((ov || !qa4 kg left' (d - 1))=false→g'=kg∧left5=left' - kg.size∧0≤left5)∧w5.cell? ⟨b,o+4,none⟩=some (.slice (some ⟨b1,o1,none⟩) f.args.length c)):=hid fun W' hb'=>by
          have hob1:=HO.out.below hb'
          have hfr1:qbm W' (ob+1) A2 c2' gs sl:=HR.out.chg (Chg.of_new (V:=fun _=>False) hb') fun _ h=>h.elim
          have hbb1:=HBR.out.below hb'
          refine (HIH.out g hgm D b1 (o1+i * 5) A' c1' tn ov left' (d - 1) W' (hg.keep (Keeps.mono (Chg.keeps (Chg.of_new (V:=fun _=>False) hb') fun _ _ (_:True) h=>h) fun _ _=>trivial)) HD.out hbb1 (fun h=>(HOV.out h).2.2.2) hlm (by omega) (by have:=HLF2.out;omega) (by omega)).mono ?_
          rintro e w5 ⟨hc5,v5,g',l5,rfl,⟨A5,c5,rfl,ha5⟩,hb5,hl5,hm5,ho5⟩
          rw [←hkg] at hb5 ho5
          refine ⟨g',A5,c5,l5,rfl,hc5,(HIC.out.trans (Chg.of_new hb')).trans hc5,hob1.chg hc5 (by omega),hfr1.chg hc5 fun x hx=>by have:=HOB1.out;have:=HS1.out;omega,hb5,?_,hl5,hm5,ho5,?_⟩
          ·have hob2:=lt_of_block hob1
           refine ha5.mono fun x hx _=>⟨⟨by have:=hx.1;omega,hx.2⟩,fun e => ?_⟩
           have:=(hfr1.ge e).2
           have:=hx.1
           omega
          ·have:=(HHR.out.keep (Chg.keeps ((Chg.of_new (V:=fun x=>x=bb) hb').trans hc5) fun k _ hk hv=>HD.out k hk hv)).c4
           exact this
         obtain ⟨i0,hti,hz0,hz1,hz2⟩:=info_parts qb8
         have hbo1:bb < ob+1:=by have:=HOB1.out;have:=HS1.out;omega
         obtain ⟨x0,x1,x2,x3,x4,xl⟩:=HO.out.cells
         have HKG:=hid hkg
         have HXG:=hid HX.out
         clear HX hgm hkg hov c0 c1 c2 c3 x0 x1 x2 x3
         have hgl1:(gs.length:Int) < (gs.length:Int)+1:=by omega
         go_upto_region 31 with (fail)
         rename_i K32 z1 z2 Q32 hK32
         refine qdr K32 (List.range' 154 18) (fun us W'=>FormI bb ob w1 (qbc neg f.op) f.name (qe7 neg f.op f.val) left d (qgv neg f.op ++ (kfs (qhx neg f.op) (qhp neg f.op) f.args).take (i+1)) (1+(i+1)) W') ?_ ?_
         ·intro us6 W32 hI32
          apply hK32
          simp only [qdu,List.range',List.range'_succ,Act.put,List.setIfInBounds_toArray,List.set_cons_zero,List.set_cons_succ]
          clear hK32 K32 c4 x4 l1 l2 xl
          go_wp2_with fail
          go_roundw
          case rel=>exact ⟨i+1,by omega,by go_num,hI32⟩
          case measure=>simp [intOf];omega
         intro HTAIL
         have HTL:=hid HTAIL
         have HMADE:=hid (show qgv neg f.op ++ (kfs (qhx neg f.op) (qhp neg f.op) f.args).take (i+1)=(qgv neg f.op ++ (kfs (qhx neg f.op) (qhp neg f.op) f.args).take i) ++ [kg] by
          rw [kfs_succ _ _ _ hlt,List.append_assoc,HKG.out,HTN.out,HXG.out])
         clear HTAIL hK32
         go_region_law (first | (refine qat _ (by rfl) _ _ 22 (by rfl) (ob+1) 24 i0 _ 5 64 Tryz.underlying22 hti hz0 hz1 hz2 rfl (by omega) (.slice A2 gs.length c2') gs.length (qav gs sl) (by rfl) (by first | exact hr5.own | exact (hr5.alloc _).own | exact (hr5.alloc _).drew.own) _ (some ⟨w5.heap.size,0,none⟩) 1 1 qgb (by rfl) (by first | exact Rd.fresh (D:=qbi) rfl trivial rfl (by omega) | exact Rd.freshD (D:=qbi) rfl trivial rfl (by omega)) (by simp [qgb,Value.oneCell']) (by have:=HLEN.out;simp only [manyN] at this;omega) (qa5 (by have:=HLEN.out;simp only [manyN] at this;omega)) (by have:=lt_of_block ho5;simp;omega) ?_;intro A6 c6 w6 hown hg6 hblk;obtain ⟨g6,rfl,hge6,hr6,ho6,hb6,hf6,hc6⟩:=app_facts (w5:=w5) (by first | exact Chg.refl _ _ | exact (Chg.refl _ _).alloc _ | exact ((Chg.refl _ _).alloc _).drew) hr5 rfl rfl rfl hown hg6 hblk ho5 (Nat.lt_succ_self _) hb5 hbo1 hf5;obtain ⟨r0,r1,r2,r3,r4,t0,t1,t2,t3,t4,rl⟩:=qd9 hown (j:=gs.length * 5) (by rw [List.drop_left' (qch hr5.len)];rfl);have q54:=qaa ho6 (i:=4) rfl;have p54:=ho6.free 4;have l54:=lt_of_block ho6;have hgo : ¬ ob=g6:=(by omega);have hgo' : ¬ g6=ob:=fun e=>hgo e.symm) | (refine qat _ (by rfl) _ _ 22 (by rfl) (ob+1) 24 i0 _ 5 64 Tryz.underlying22 hti hz0 hz1 hz2 rfl (by omega) (.slice A2 gs.length c2') gs.length (qav gs sl) (by rfl) (by first | exact hr5.own | exact (hr5.alloc _).own | exact (hr5.alloc _).drew.own) _ (some ⟨W31.heap.size,0,none⟩) 1 1 qgb (by rfl) (by first | exact (Rd.fresh (w:=W31) (D:=fun k=>k=W31.heap.size) rfl rfl rfl (by omega)).keep (hc5.keeps fun k _ hk hv=>by omega) | exact (Rd.freshD (w:=W31) (D:=fun k=>k=W31.heap.size) rfl rfl rfl (by omega)).keep (hc5.keeps fun k _ hk hv=>by omega)) (by simp [qgb,Value.oneCell']) (by have:=HLEN.out;simp only [manyN] at this;omega) (qa5 (by have:=HLEN.out;simp only [manyN] at this;omega)) (by have:=lt_of_block ho5;simp;omega) ?_;intro A6 c6 w6 hown hg6 hblk;obtain ⟨g6,rfl,hge6,hr6,ho6,hb6,hf6,hc6⟩:=app_facts (w5:=w5) (by first | exact Chg.refl _ _ | exact (Chg.refl _ _).alloc _ | exact ((Chg.refl _ _).alloc _).drew) hr5 rfl rfl rfl hown hg6 hblk ho5 (Nat.lt_succ_self _) hb5 hbo1 hf5;obtain ⟨r0,r1,r2,r3,r4,t0,t1,t2,t3,t4,rl⟩:=qd9 hown (j:=gs.length * 5) (by rw [List.drop_left' (qch hr5.len)];rfl);have q54:=qaa ho6 (i:=4) rfl;have p54:=ho6.free 4;have l54:=lt_of_block ho6;have hgo : ¬ ob=g6:=(by omega);have hgo' : ¬ g6=ob:=fun e=>hgo e.symm) | (go_simp;go_at_call 73;(with_reducible refine (HCALL.out _ (by first | exact Below.refl _ _ | exact (Below.refl _ _).drew | exact (Below.refl _ _).alloc (Nat.le_refl _) _ | exact ((Below.refl _ _).alloc (Nat.le_refl _) _).drew | go_grown)).mono ?_);rintro e w5 ⟨g',A5,c5,left5,rfl,hc5,hcw5,ho5,hr5,hb5,hf5,hl5,hm5,hov5,hc45⟩;have q4:=qaa ho5 (i:=4) rfl;have ql:=lt_of_block ho5))
         all_goals
          show K32 _ _
          refine K_gen fun WF hWF => ?_
          have hobne':bb≠ob:=fun h=>hobne h.symm
          have hob1:ob < ob+1:=by omega
          have hwo:w1.heap.size≤ob:=by have:=HOB1.out;omega
          have hcw6:Chg (fun x=>x=bb) w1 w6:=hcw5.trans' hc6 fun x hx h=>by have:=HOB1.out;omega
          have happ:AppSays bb ob (ob+1) (qbc neg f.op) f.name v' 0 left5 (ov || !qa4 kg left' (d - 1)) (gs ++ [g']) w1 WF:=by
           rw [hWF]
           first
            | with_reducible exact app_fin1 rfl rfl hobne' hob1 hbo1 hwo hcw6 hb6 ho6 hr6 hf6
            | with_reducible exact app_fin2 rfl rfl hobne' hob1 hbo1 hwo hcw6 hb6 ho6 hr6 hf6
          clear hWF
          refine qak HTL.out ?_ ?_
          ·rw [HMADE.out]
           exact form_step HOVE.out HOV.out hov5 hgl hll hl5 hm5 happ
          ·kernel_rfl
       ·have hii : ¬ (i:Int) < f.args.length:=by omega
        obtain ⟨x0,x1,x2,x3,x4,xl⟩:=HO.out.cells
        obtain ⟨r0,r1,r2,r3,r4,rl⟩:=(HR1.out.chg HIC.out (by omega)).cells
        have p0:=(HR1.out.chg HIC.out (by omega)).free 0
        have p1:=(HR1.out.chg HIC.out (by omega)).free 1
        have p2:=(HR1.out.chg HIC.out (by omega)).free 2
        have p3:=(HR1.out.chg HIC.out (by omega)).free 3
        have p4:=(HR1.out.chg HIC.out (by omega)).free 4
        go_wp2_with fail
        refine qag fun WE hWE => ?_
        have hro:=HR1.out.chg HIC.out (by omega)
        have hOW:OB WE w.heap.size (qbc neg f.op) f.name v' 0 A2 gs.length c2':=by
         unfold OB
         rw [hWE,qae (qae (qae (qae (qae hro _) _) _) _)];rfl
        have hcE:Chg (fun x=>x=w.heap.size) wr WE:=by
         rw [hWE]
         exact (((((Chg.refl (fun x=>x=w.heap.size) wr).set ⟨w.heap.size,0,none⟩ _ fun _=>rfl).set ⟨w.heap.size,1,none⟩ _ fun _=>rfl).set ⟨w.heap.size,2,none⟩ _ fun _=>rfl).set ⟨w.heap.size,3,none⟩ _ fun _=>rfl).set ⟨w.heap.size,4,none⟩ _ fun _=>rfl
        have hie:(kfs (qhx neg f.op) (qhp neg f.op) f.args).take i=kfs (qhx neg f.op) (qhp neg f.op) f.args:=List.take_of_length_le (by rw [kfs_len];omega)
        obtain ⟨y0,y1,y2,y3,y4,yl⟩:=hOW.cells
        have hfin:=form_fin (bb:=bb) (ob:=ob) (rb:=w.heap.size) (k:=gs.length) hs h4 h13 h14 h3 (by rw [hie]) HC1.out HIC.out (Nat.le_refl _) (by have:=HOB1.out;have:=HS1.out;omega) hbl HR.out HBR.out rfl (by have:=HLEN.out;simp only [manyN] at this;omega) hll hlm HOV.out hcE
        clear hWE hro hcE
        exact bodyPost_ret (v := .agg #[.int .i64 (qbc neg f.op),.string f.name,.int .i64 v',.int .i64 0,.slice A2 gs.length c2']) (by simp [results,Tryz.results73,go_sem,y0,y1,y2,y3,y4]) rfl hfin
end Go.Proofs.YtdpbgcmfeajigaaGreatDoor
