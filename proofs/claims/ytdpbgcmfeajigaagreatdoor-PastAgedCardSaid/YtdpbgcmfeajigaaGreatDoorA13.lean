/-
  Walk of the builder's form at a node that has its own operator.
-/
import Derived.Test.YtdpbgcmfeajigaaGreatDoorA12
set_option linter.unusedSimpArgs false
set_option linter.unusedVariables false
set_option maxHeartbeats 8000000
set_option maxRecDepth 100000
namespace Go.Proofs.YtdpbgcmfeajigaaGreatDoor
open Go.RowKit Go.Shelf
attribute [local go_sem] ak jR nV jQ
theorem OB.cells {w:World}{ob:Nat}{o:Int}{n:ByteArray}{v b:Int}{A:Option Addr}{k c:Nat}(h:OB w ob o n v b A k c):w.cell? ⟨ob,0,none⟩=some (.int .i64 o)/\w.cell? ⟨ob,1,none⟩=some (.string n)/\w.cell? ⟨ob,2,none⟩=some (.int .i64 v)/\w.cell? ⟨ob,3,none⟩=some (.int .i64 b)/\w.cell? ⟨ob,4,none⟩=some (.slice A k c)/\ob<w.heap.size :=
 ⟨aj h rfl,aj h rfl,aj h rfl,aj h rfl,aj h rfl,lt_of_block h⟩
theorem OB.free {w:World}{ob:Nat}{o:Int}{n:ByteArray}{v b:Int}{A:Option Addr}{k c:Nat}(h:OB w ob o n v b A k c)(i:Nat):w.frozen? ⟨ob,i,none⟩=false:=aA h
theorem dB.zero {bb rb:Nat}{k:Fm}{left left':Int}{w w':World}(hc:aH (λ x=>x=bb) w w')(hb:BB w' bb left' true)(hl:left'<=left)(hm : -1<=left') :
  dB bb k left true w (.returned (.agg #[.int .i64 0,.string ⟨#[]⟩,.int .i64 0,.int .i64 0,.slice none 0 0])) w' :=
 ⟨hc,_,dV,left',rfl,⟨none,0,rfl,bZ.nil _ _ _ (by omega)⟩,hb,hl,hm,λ h=>by cases h⟩
theorem NJ (bb:Nat)(f:Fm)(hs:bW f=true)(ih:∀g,g∈f.args->zO bb g)(h4:f.op≠4)(h13:f.op≠13)(Rh:f.op≠14)
  {D:Dom} {b o:Nat} {A:Option Addr} {c:Nat} {neg:Bool} {left d:Int} {w:World} (h3:f.op=3->neg=false)
  (h:dU w D b o f A c) (hD:∀k,D k->k≠bb) (hB:BB w bb left false) (hl0:0<=left) (hl2:left<=1000000) (hd1 : -1000000<=d) (hd2:d<=1000000) :
  Calls Tryz.prog 73 #[.pointer (some ⟨bb,0,none⟩),.pointer (some ⟨b,o,none⟩),.bool neg,.int .i64 d] w (dB bb (kf neg f) left (!bK (kf neg f) left d) w):=by
 have HH:=hid h;have HD:=hid hD;have HB:=hid hB;have HIH:=hid ih;have hbl:=lt_of_block hB;have hlt:=h.lt;have hbne:=hD b h.dom;clear hB h ih;have e4:=ay h4;have e13:=ay h13;have e14:=ay Rh
 go_enter Tryz.func73,Tryz.ntmps73
 go_upto_region 1 with(fail)
 refine aC λ W hW=>?_;have HW:=hid (show aH (λ x=>x=bb) w W by rw[hW];exact(aH.refl _ w).alloc _);have gY:=hid (show OB W w.heap.size 0 ⟨#[]⟩ 0 0 none 0 0 by rw[hW];exact at_new _ _ _ rfl);have aT:=hid (HB.out.below (show Below w.heap.size w W by rw[hW];go_grown));have HT:=hid (take_any bb left d false W aT.out (by omega) (by omega));have jI:=hid (show W.heap.size=w.heap.size+1 by rw[hW];simp);clear hW
 rename_i K11 qdY K1 hK1
 refine kF K11 (List.range' 12 76) (λ _ W'=>W'=W) ?_ ?_
 rotate_left
 ·--<<
  intro gK;clear qdY;have kH:=hid gK;have b1:=aj aT.out (i:=1) rfl;obtain⟨_,hl1,c0,c1,c2,c3,c4,_⟩:=HH.out.keep (HW.out.keeps λ k _ hk hv=>HD.out k hk hv);clear gK
  by_cases hq3:f.op=3
  ·have hn:=h3 hq3
   subst hn;have e3:(f.op==3)=true:=by rw[hq3];rfl
   clear hq3 h3;go_wp2_with fail
   refine aO kH.out rfl ?_
   kernel_rfl
  ·have e3:=ay hq3
   clear hq3 h3;go_wp2_with fail
   refine aO kH.out rfl ?_
   kernel_rfl
  -->>
 ·intro us W1 hW1
  obtain rfl:=hW1;apply qdY;clear hK1 qdY K1 K11;simp only[jL,List.range',List.range'_succ,Act.put,List.setIfInBounds_toArray,List.set_cons_zero,List.set_cons_succ]
  cases htk:eP left false d <;> rw[htk]at HT <;> (have Ed:=hid htk) <;> clear htk
  rotate_left
  ·obtain⟨rb,hrb⟩:∃rb,rb=w.heap.size:=⟨_,rfl⟩
   rw[<-hrb]at gY⊢;have nZ:¬rb=bb:=by omega
   have wI:=hid hrb;clear hrb;go_wp2_with (first|(go_at_call 110;refine HT.out.mono ?_;rintro e w1 ⟨rfl,hc1,hb1⟩;obtain⟨r0,r1,r2,r3,r4,rl⟩:=(gY.out.eu hc1 nZ).cells;have p0:=(gY.out.eu hc1 nZ).free 0;have p1:=(gY.out.eu hc1 nZ).free 1;have p2:=(gY.out.eu hc1 nZ).free 2;have p3:=(gY.out.eu hc1 nZ).free 3;have p4:=(gY.out.eu hc1 nZ).free 4))
   refine aK λ WE fD=>?_;have fQ:=gY.out.eu hc1 nZ;have jl:OB WE rb 0 ⟨#[]⟩ 0 0 none 0 0:=by rw[fD];exact bF fQ
   have hcE:aH (λ x=>x=rb) w1 WE:=by rw[fD];exact aN _ _ _ _ _ _ _
   obtain⟨y0,y1,y2,y3,y4,yl⟩:=jl.cells;have hov:(!bK (kf neg f) left d)=true:=by rw[Um hs h4 h13 Rh h3,KE];exact ZI Ed.out
   clear fD r0 r1 r2 r3 r4 p0 p1 p2 p3 p4;rw[hov]
   exact bodyPost_ret (v := .agg #[.int .i64 0,.string ⟨#[]⟩,.int .i64 0,.int .i64 0,.slice none 0 0]) (by simp[results,Tryz.results73,go_sem,y0,y1,y2,y3,y4]) rfl
    (dB.zero (rb:=0) ((HW.out.trans hc1).trans' hcE λ x hx h=>by have:=wI.out;omega) (BB.eu hb1 hcE (λ h=>nZ h.symm)) (by omega) (by omega))
  ·go_upto_region 13 with(first|(go_at_call 110;refine HT.out.mono ?_;rintro e w1 ⟨rfl,hc1,hb1⟩))
   rename_i K14 qdZ
   have Mc:=hid (HW.out.trans hc1);have HB1:=hid hb1;have HR1:=hid (gY.out.eu hc1 (by omega));have HS1:=hid (show w.heap.size+1<=w1.heap.size by have:=hc1.size;have:=jI.out;omega);obtain⟨_,hl1,c0,c1,c2,c3,c4,_⟩:=HH.out.keep (Mc.out.keeps λ k _ hk hv=>HD.out k hk hv);clear hc1 hb1;obtain⟨ob,hob⟩:∃ob,ob=w1.heap.size:=⟨_,rfl⟩;have HOB:=hid hob;refine kF K14 (9 :: List.range' 93 14) (λ us W'=>us 9 = .pointer (some ⟨ob,0,none⟩)/\aH (λ x=>x=bb) w1 W'/\OB W' ob (FN f.op) f.name f.val 0 none 0 0/\ob<W'.heap.size/\BB W' bb (left-1) false) ?_ ?_
   rotate_left
   ·--<<
    intro gK;have kH:=hid gK;clear gK qdZ hob
    go_region_held3 (λ W':World=>W'.cell? ⟨b,o,none⟩=some (.int .i64 f.op)/\W'.cell? ⟨b,o+1,none⟩=some (.string f.name)/\W'.cell? ⟨b,o+2,none⟩=some (.int .i64 f.val))
     (first|(go_keep;done))
     ((go_at_call 112;with_reducible refine(NK f.op _).mono ?_;rintro e w9 ⟨rfl,Az⟩;rw[Az];clear Az))
    all_goals
     show K14 _ _;refine yS λ W13 qbm=>?_;refine aO kH.out ⟨by rw[HOB.out];rfl,?_,?_,?_,?_⟩ ?_
     ·rw[qbm];exact((aH.refl _ w1).alloc _).drew
     ·rw[qbm,HOB.out];exact at_new _ _ _ rfl
     ·rw[qbm,HOB.out];simp
     ·rw[qbm];exact(aQ _ _ _ (lt_of_block HB1.out)).trans HB1.out
     ·kernel_rfl
    -->>
   ·rintro us2 W13 ⟨hu9,hc13,qgw,qgr,YU⟩
    apply qdZ;simp only[jL,List.range',List.range'_succ,Act.put,List.setIfInBounds_toArray,List.set_cons_zero,List.set_cons_succ];rw[hu9];clear qdZ c0 c1 c2 c3 c4 hl1;have Aw:¬ob=bb:=by have:=HS1.out;omega
    have BI:=hid hob;clear hob;have qcU:=hid hc13;have XO:=hid qgw;have XB:=hid YU;obtain⟨x0,x1,x2,x3,x4,xl⟩:=XO.out.cells;have y0:=XO.out.free 0;have hob0:=qgr;clear hc13 qgw YU;go_upto_region 14 with(fail)
    rename_i K16 qd0 K15 KG
    refine kF K16 (List.range' 107 5) (λ us W'=>aH (λ x=>x=bb) w1 W'/\OB W' ob (cO neg f.op) f.name f.val 0 none 0 0/\BB W' bb (left-1) false) ?_ ?_
    rotate_left
    ·--<<
     intro gK;have kH:=hid gK;clear gK qd0;cases neg
     ·go_wp2_with fail
      refine aO kH.out ⟨qcU.out,XO.out,XB.out⟩ ?_
      kernel_rfl
     ·go_wp2_with (first|(go_at_call 113;refine(ND _ _).mono ?_;rintro e w9 ⟨rfl,Az⟩;rw[Az];clear Az))
      refine aO kH.out ⟨?_,?_,?_⟩ ?_
      ·exact qcU.out.set ⟨ob,0,none⟩ _ λ h=>by have:=BI.out;simp only[]at h;omega
      ·unfold OB
       rw[aB XO.out];rfl
      ·exact BB.eu XB.out ((aH.refl (λ x=>x=ob) W13).set ⟨ob,0,none⟩ _ λ _=>rfl) (λ h=>Aw h.symm)
      ·kernel_rfl
     -->>
    ·rintro us3 W16 ⟨hc16,qbw,hb16⟩
     apply qd0;simp only[jL,List.range',List.range'_succ,Act.put,List.setIfInBounds_toArray,List.set_cons_zero,List.set_cons_succ];clear qd0 KG K16 K15 x0 x1 x2 x3 x4 xl y0 XO qcU qgr;have EK:=hid hc16;have ER:=hid qbw;have vO:=hid hb16;obtain⟨x0,x1,x2,x3,x4,xl⟩:=qbw.cells;have y2:=qbw.free 2;obtain⟨_,hl16,c0,c1,c2,c3,c4,_⟩:=HH.out.keep ((Mc.out.trans hc16).keeps λ k _ hk hv=>HD.out k hk hv);have MF:=hid (show 1<=left/\1<=d by have:=Ed.out;unfold eP at this;simp at this;omega);have TK:=hid (show ob+1<=W16.heap.size from xl);clear hc16 qbw hb16;go_upto_region 16 with(fail)
     rename_i K27 qd1 K17 hK17
     refine kF K27 (List.range' 112 23) (λ us W'=>TD bb ob w1 (cO neg f.op) f.name (nO neg f.op f.val) left d (o7 neg f.op) 1 W') ?_ ?_
     rotate_left
     ·--<<
      intro gK;have kH:=hid gK;clear gK qd1
      by_cases hop:f.op=15
      ·have e15:(f.op==15)=true:=by rw[hop];rfl
       have hvb:0<=f.val/\f.val<=1:=by have:=jo hs;rw[hop]at this;exact⟨this.2.2.2.1,this.2.2.2.2.1⟩
       have hwv:=IntWalk.i64_in (1-f.val) (by omega);have HV:=hid (show nO neg f.op f.val=(if neg then 1-f.val else f.val)by rw[hop];cases neg <;> rfl);have HL:=hid (show o7 neg f.op = []by rw[hop];rfl);have e16:(f.op==16)=false:=by rw[hop];rfl
       have e17:(f.op==17)=false:=by rw[hop];rfl
       have e11:(f.op==11)=false:=by rw[hop];rfl
       have e12:(f.op==12)=false:=by rw[hop];rfl
       have e18:(f.op==18)=false:=by rw[hop];rfl
       have e19:(f.op==19)=false:=by rw[hop];rfl
       clear hop h4 h13 Rh;cases neg
       ·go_wp2_with fail
        refine aO kH.out ?_ ?_
        ·exact⟨EK.out,f.val,none,0,[],[],left-1,ER.out,bT.nil _ _,by rw[HL.out,rZ,Ed.out];exact vO.out,Nat.zero_le _,by omega,by omega,λ _=>⟨HV.out.symm,HL.out.symm,by rw[HL.out];simp[sizes],by have:=MF.out;omega⟩⟩
        ·kernel_rfl
       ·go_wp2_with fail
        refine aO kH.out ?_ ?_
        ·refine⟨EK.out.set ⟨ob,2,none⟩ _ λ h=>by have:=BI.out;simp only[]at h;omega,1-f.val,none,0,[],[],left-1,?_,bT.nil _ _,?_,Nat.zero_le _,by omega,by omega,λ _=>⟨HV.out.symm,HL.out.symm,by rw[HL.out];simp[sizes],by have:=MF.out;omega⟩⟩
         ·unfold OB
          rw[aB ER.out];rfl
         ·rw[HL.out,rZ,Ed.out]
          exact BB.eu vO.out ((aH.refl (λ x=>x=ob) W16).set ⟨ob,2,none⟩ _ λ _=>rfl) (λ h=>Aw h.symm)
        ·kernel_rfl
      have e15:=ay hop;have n15:=hop;clear hop
      by_cases hop:f.op=16
      ·have e16:(f.op==16)=true:=by rw[hop];rfl
       have hvb:0<=f.val/\f.val<=1:=by have:=jo hs;rw[hop]at this;exact⟨this.2.2.2.1,this.2.2.2.2.1⟩
       have hwv:=IntWalk.i64_in (1-f.val) (by omega);have HV:=hid (show nO neg f.op f.val=(if neg then 1-f.val else f.val)by rw[hop];cases neg <;> rfl);have HL:=hid (show o7 neg f.op = []by rw[hop];rfl);have e15:(f.op==15)=false:=by rw[hop];rfl
       have e17:(f.op==17)=false:=by rw[hop];rfl
       have e11:(f.op==11)=false:=by rw[hop];rfl
       have e12:(f.op==12)=false:=by rw[hop];rfl
       have e18:(f.op==18)=false:=by rw[hop];rfl
       have e19:(f.op==19)=false:=by rw[hop];rfl
       clear hop h4 h13 Rh;cases neg
       ·go_wp2_with fail
        refine aO kH.out ?_ ?_
        ·exact⟨EK.out,f.val,none,0,[],[],left-1,ER.out,bT.nil _ _,by rw[HL.out,rZ,Ed.out];exact vO.out,Nat.zero_le _,by omega,by omega,λ _=>⟨HV.out.symm,HL.out.symm,by rw[HL.out];simp[sizes],by have:=MF.out;omega⟩⟩
        ·kernel_rfl
       ·go_wp2_with fail
        refine aO kH.out ?_ ?_
        ·refine⟨EK.out.set ⟨ob,2,none⟩ _ λ h=>by have:=BI.out;simp only[]at h;omega,1-f.val,none,0,[],[],left-1,?_,bT.nil _ _,?_,Nat.zero_le _,by omega,by omega,λ _=>⟨HV.out.symm,HL.out.symm,by rw[HL.out];simp[sizes],by have:=MF.out;omega⟩⟩
         ·unfold OB
          rw[aB ER.out];rfl
         ·rw[HL.out,rZ,Ed.out]
          exact BB.eu vO.out ((aH.refl (λ x=>x=ob) W16).set ⟨ob,2,none⟩ _ λ _=>rfl) (λ h=>Aw h.symm)
        ·kernel_rfl
      have e16:=ay hop;have n16:=hop;clear hop
      by_cases hop:f.op=17
      ·have e17:(f.op==17)=true:=by rw[hop];rfl
       have hvb:0<=f.val/\f.val<=1:=by have:=jo hs;rw[hop]at this;exact⟨this.2.2.2.1,this.2.2.2.2.1⟩
       have hwv:=IntWalk.i64_in (1-f.val) (by omega);have HV:=hid (show nO neg f.op f.val=(if neg then 1-f.val else f.val)by rw[hop];cases neg <;> rfl);have HL:=hid (show o7 neg f.op = []by rw[hop];rfl);have e15:(f.op==15)=false:=by rw[hop];rfl
       have e16:(f.op==16)=false:=by rw[hop];rfl
       have e11:(f.op==11)=false:=by rw[hop];rfl
       have e12:(f.op==12)=false:=by rw[hop];rfl
       have e18:(f.op==18)=false:=by rw[hop];rfl
       have e19:(f.op==19)=false:=by rw[hop];rfl
       clear hop h4 h13 Rh;cases neg
       ·go_wp2_with fail
        refine aO kH.out ?_ ?_
        ·exact⟨EK.out,f.val,none,0,[],[],left-1,ER.out,bT.nil _ _,by rw[HL.out,rZ,Ed.out];exact vO.out,Nat.zero_le _,by omega,by omega,λ _=>⟨HV.out.symm,HL.out.symm,by rw[HL.out];simp[sizes],by have:=MF.out;omega⟩⟩
        ·kernel_rfl
       ·go_wp2_with fail
        refine aO kH.out ?_ ?_
        ·refine⟨EK.out.set ⟨ob,2,none⟩ _ λ h=>by have:=BI.out;simp only[]at h;omega,1-f.val,none,0,[],[],left-1,?_,bT.nil _ _,?_,Nat.zero_le _,by omega,by omega,λ _=>⟨HV.out.symm,HL.out.symm,by rw[HL.out];simp[sizes],by have:=MF.out;omega⟩⟩
         ·unfold OB
          rw[aB ER.out];rfl
         ·rw[HL.out,rZ,Ed.out]
          exact BB.eu vO.out ((aH.refl (λ x=>x=ob) W16).set ⟨ob,2,none⟩ _ λ _=>rfl) (λ h=>Aw h.symm)
        ·kernel_rfl
      have e17:=ay hop;have n17:=hop;clear hop
      by_cases hop:f.op=11
      ·have e11:(f.op==11)=true:=by rw[hop];rfl
       have h1:uY f.op=true:=by rw[hop];rfl
       have HV:=hid (AY (neg:=neg) (v:=f.val) h1 (by rw[hop];rfl));have HL:=hid (yB (neg:=neg) h1);have sW:=hid (AX bb ob (cO neg f.op) f.name f.val (left-1) d false W16 (λ h=>Aw h.symm) vO.out ER.out (by have:=MF.out;omega) (by omega) hd1 hd2);clear h1;have e15:(f.op==15)=false:=by rw[hop];rfl
       have e16:(f.op==16)=false:=by rw[hop];rfl
       have e17:(f.op==17)=false:=by rw[hop];rfl
       have e12:(f.op==12)=false:=by rw[hop];rfl
       have e18:(f.op==18)=false:=by rw[hop];rfl
       have e19:(f.op==19)=false:=by rw[hop];rfl
       clear hop h4 h13 Rh;go_wp2_with (first|(go_at_call 114;refine sW.out.mono ?_;rintro e w9 ⟨⟨r9,rfl⟩,hlo⟩))
       refine aO kH.out ?_ ?_
       ·rw[HL.out]
        obtain⟨q1,q2,q3,q4⟩:=hlo;have hov:Gh [kV (mP (cO neg f.op)) []] left d=eP (left-1) false (d-1):=by rw[Bd _ rfl,Ed.out];rfl
        have hch:aH (λ x=>x=bb) w1 w9:=EK.out.trans' q1 λ k hk h=>by have:=BI.out;omega
        cases uX:eP (left-1) false (d-1)
        ·rw[uX]at q2 q4 hov
         obtain⟨A2,c2,q5,q6⟩:=q4 rfl
         have hl2:0<=left-1-1:=by
          unfold eP at uX;simp at uX;omega
         exact⟨hch,_,A2,c2,_,_,left-1-1,q5,q6.base TK.out,by rw[hov];exact q2,Nat.le_refl _,by omega,by omega,λ _=>⟨HV.out.symm,rfl,by simp[sizes,kV,Fm.size];omega,hl2⟩⟩
        ·rw[uX]at q2 q3 hov
         exact⟨hch,_,none,0,[],[],left-1-1,q3 rfl,bT.nil _ _,by rw[hov];exact q2,Nat.zero_le _,by omega,by have:=MF.out;omega,λ h=>by rw[hov]at h;cases h⟩
       ·kernel_rfl
      have e11:=ay hop;have n11:=hop;clear hop
      by_cases hop:f.op=12
      ·have e12:(f.op==12)=true:=by rw[hop];rfl
       have h1:uY f.op=true:=by rw[hop];rfl
       have HV:=hid (AY (neg:=neg) (v:=f.val) h1 (by rw[hop];rfl));have HL:=hid (yB (neg:=neg) h1);have sW:=hid (AX bb ob (cO neg f.op) f.name f.val (left-1) d false W16 (λ h=>Aw h.symm) vO.out ER.out (by have:=MF.out;omega) (by omega) hd1 hd2);clear h1;have e15:(f.op==15)=false:=by rw[hop];rfl
       have e16:(f.op==16)=false:=by rw[hop];rfl
       have e17:(f.op==17)=false:=by rw[hop];rfl
       have e11:(f.op==11)=false:=by rw[hop];rfl
       have e18:(f.op==18)=false:=by rw[hop];rfl
       have e19:(f.op==19)=false:=by rw[hop];rfl
       clear hop h4 h13 Rh;go_wp2_with (first|(go_at_call 114;refine sW.out.mono ?_;rintro e w9 ⟨⟨r9,rfl⟩,hlo⟩))
       refine aO kH.out ?_ ?_
       ·rw[HL.out]
        obtain⟨q1,q2,q3,q4⟩:=hlo;have hov:Gh [kV (mP (cO neg f.op)) []] left d=eP (left-1) false (d-1):=by rw[Bd _ rfl,Ed.out];rfl
        have hch:aH (λ x=>x=bb) w1 w9:=EK.out.trans' q1 λ k hk h=>by have:=BI.out;omega
        cases uX:eP (left-1) false (d-1)
        ·rw[uX]at q2 q4 hov
         obtain⟨A2,c2,q5,q6⟩:=q4 rfl
         have hl2:0<=left-1-1:=by
          unfold eP at uX;simp at uX;omega
         exact⟨hch,_,A2,c2,_,_,left-1-1,q5,q6.base TK.out,by rw[hov];exact q2,Nat.le_refl _,by omega,by omega,λ _=>⟨HV.out.symm,rfl,by simp[sizes,kV,Fm.size];omega,hl2⟩⟩
        ·rw[uX]at q2 q3 hov
         exact⟨hch,_,none,0,[],[],left-1-1,q3 rfl,bT.nil _ _,by rw[hov];exact q2,Nat.zero_le _,by omega,by have:=MF.out;omega,λ h=>by rw[hov]at h;cases h⟩
       ·kernel_rfl
      have e12:=ay hop;have n12:=hop;clear hop
      by_cases hop:f.op=18
      ·have e18:(f.op==18)=true:=by rw[hop];rfl
       have h1:uY f.op=true:=by rw[hop];rfl
       have HV:=hid (AY (neg:=neg) (v:=f.val) h1 (by rw[hop];rfl));have HL:=hid (yB (neg:=neg) h1);have sW:=hid (AX bb ob (cO neg f.op) f.name f.val (left-1) d false W16 (λ h=>Aw h.symm) vO.out ER.out (by have:=MF.out;omega) (by omega) hd1 hd2);clear h1;have e15:(f.op==15)=false:=by rw[hop];rfl
       have e16:(f.op==16)=false:=by rw[hop];rfl
       have e17:(f.op==17)=false:=by rw[hop];rfl
       have e11:(f.op==11)=false:=by rw[hop];rfl
       have e12:(f.op==12)=false:=by rw[hop];rfl
       have e19:(f.op==19)=false:=by rw[hop];rfl
       clear hop h4 h13 Rh;go_wp2_with (first|(go_at_call 114;refine sW.out.mono ?_;rintro e w9 ⟨⟨r9,rfl⟩,hlo⟩))
       refine aO kH.out ?_ ?_
       ·rw[HL.out]
        obtain⟨q1,q2,q3,q4⟩:=hlo;have hov:Gh [kV (mP (cO neg f.op)) []] left d=eP (left-1) false (d-1):=by rw[Bd _ rfl,Ed.out];rfl
        have hch:aH (λ x=>x=bb) w1 w9:=EK.out.trans' q1 λ k hk h=>by have:=BI.out;omega
        cases uX:eP (left-1) false (d-1)
        ·rw[uX]at q2 q4 hov
         obtain⟨A2,c2,q5,q6⟩:=q4 rfl
         have hl2:0<=left-1-1:=by
          unfold eP at uX;simp at uX;omega
         exact⟨hch,_,A2,c2,_,_,left-1-1,q5,q6.base TK.out,by rw[hov];exact q2,Nat.le_refl _,by omega,by omega,λ _=>⟨HV.out.symm,rfl,by simp[sizes,kV,Fm.size];omega,hl2⟩⟩
        ·rw[uX]at q2 q3 hov
         exact⟨hch,_,none,0,[],[],left-1-1,q3 rfl,bT.nil _ _,by rw[hov];exact q2,Nat.zero_le _,by omega,by have:=MF.out;omega,λ h=>by rw[hov]at h;cases h⟩
       ·kernel_rfl
      have e18:=ay hop;have n18:=hop;clear hop
      by_cases hop:f.op=19
      ·have e19:(f.op==19)=true:=by rw[hop];rfl
       have h1:uY f.op=true:=by rw[hop];rfl
       have HV:=hid (AY (neg:=neg) (v:=f.val) h1 (by rw[hop];rfl));have HL:=hid (yB (neg:=neg) h1);have sW:=hid (AX bb ob (cO neg f.op) f.name f.val (left-1) d false W16 (λ h=>Aw h.symm) vO.out ER.out (by have:=MF.out;omega) (by omega) hd1 hd2);clear h1;have e15:(f.op==15)=false:=by rw[hop];rfl
       have e16:(f.op==16)=false:=by rw[hop];rfl
       have e17:(f.op==17)=false:=by rw[hop];rfl
       have e11:(f.op==11)=false:=by rw[hop];rfl
       have e12:(f.op==12)=false:=by rw[hop];rfl
       have e18:(f.op==18)=false:=by rw[hop];rfl
       clear hop h4 h13 Rh;go_wp2_with (first|(go_at_call 114;refine sW.out.mono ?_;rintro e w9 ⟨⟨r9,rfl⟩,hlo⟩))
       refine aO kH.out ?_ ?_
       ·rw[HL.out]
        obtain⟨q1,q2,q3,q4⟩:=hlo;have hov:Gh [kV (mP (cO neg f.op)) []] left d=eP (left-1) false (d-1):=by rw[Bd _ rfl,Ed.out];rfl
        have hch:aH (λ x=>x=bb) w1 w9:=EK.out.trans' q1 λ k hk h=>by have:=BI.out;omega
        cases uX:eP (left-1) false (d-1)
        ·rw[uX]at q2 q4 hov
         obtain⟨A2,c2,q5,q6⟩:=q4 rfl
         have hl2:0<=left-1-1:=by
          unfold eP at uX;simp at uX;omega
         exact⟨hch,_,A2,c2,_,_,left-1-1,q5,q6.base TK.out,by rw[hov];exact q2,Nat.le_refl _,by omega,by omega,λ _=>⟨HV.out.symm,rfl,by simp[sizes,kV,Fm.size];omega,hl2⟩⟩
        ·rw[uX]at q2 q3 hov
         exact⟨hch,_,none,0,[],[],left-1-1,q3 rfl,bT.nil _ _,by rw[hov];exact q2,Nat.zero_le _,by omega,by have:=MF.out;omega,λ h=>by rw[hov]at h;cases h⟩
       ·kernel_rfl
      have e19:=ay hop;have n19:=hop;clear hop;have X8:=hid (LM (neg:=neg) (v:=f.val) n15 n16 n17 n11 n12 n18 n19);clear n15 n16 n17 n11 n12 n18 n19 h4 h13 Rh;go_wp2_with fail
      refine aO kH.out ?_ ?_
      ·exact⟨EK.out,f.val,none,0,[],[],left-1,ER.out,bT.nil _ _,by rw[X8.out.2,rZ,Ed.out];exact vO.out,Nat.zero_le _,by omega,by have:=MF.out;omega,λ _=>⟨X8.out.1.symm,X8.out.2.symm,by rw[X8.out.2];simp[sizes],by have:=MF.out;omega⟩⟩
      ·kernel_rfl
      -->>
     ·rintro us4 W27 hI
      apply qd1;simp only[jL,List.range',List.range'_succ,Act.put,List.setIfInBounds_toArray,List.set_cons_zero,List.set_cons_succ];clear qd1 hK17 K27 K17 x0 x1 x2 x3 x4 xl y2 c0 c1 c2 c3 c4 hl16;obtain⟨l1,l2,c0,c1,c2,c3,c4,l3⟩:=HH.out.keep ((Mc.out.trans hI.eu).keeps λ k _ hk hv=>HD.out k hk hv);have hal:=l3.len.1;have HI:=hid hI
      have HLEN:=hid (show f.args.length<=manyN from by
       have h0:=(jo hs).2.2.1
       have h1:(aJ f.op).most<=manyN:=by
        have:=(jo hs).1
        rcases qU this with e|e|e|e|e|e|e|e|e|e|e|e|e|e|e|e|e|e|e <;> rw[e] <;> decide
       omega)
      clear hI l3;go_wp2_with fail
      go_loopw [140] (λ q wr=>∃i:Nat,i<=f.args.length/\q = .int .i64 (i:Int)/\TD bb ob w1 (cO neg f.op) f.name (nO neg f.op f.val) left d (o7 neg f.op++(Ht (rG neg f.op) (qj neg f.op) f.args).take i) (1+i) wr) (λ q _=>f.args.length-(intOf q).toNat)
      case atStart=>exact⟨0,Nat.zero_le _,rfl,by simpa using HI.out⟩
      case round =>
       obtain⟨i,hi,rfl,hI⟩:=hrel;obtain⟨hic,v',A2,c2',gs,sl,left',ho,hr,hb,hgl,hll,hlm,hov⟩:=hI;have HIC:=hid hic;have HO:=hid ho;have HR:=hid hr;have gB:=hid hb;have XR:=hid hov;have HHR:=hid (HH.out.keep ((Mc.out.trans hic).keeps λ k _ hk hv=>HD.out k hk hv));clear hic ho hr hb hov c0 c1 c2 c3 c4 l1 l2
       by_cases hlt:i<f.args.length
       ·have hii:(i:Int)<f.args.length:=by omega
        obtain⟨tn,htn⟩:∃tn,tn=(if i=0 then rG neg f.op else qj neg f.op):=⟨_,rfl⟩;have HTN:=hid htn;have qeQ:=hid HHR.out.args;obtain⟨l1,l2,c0,c1,c2,c3,c4,l3⟩:=HHR.out;clear l3 htn;go_upto_region 30 with(fail)
        rename_i K31 qd2
        refine kF K31 (11 :: List.range' 143 11) (λ us W'=>us 11 = .bool tn/\W'=wr) ?_ ?_
        rotate_left
        ·intro gK
         have kH:=hid gK;clear gK qd2
         by_cases h7:f.op=7
         ·have e7:(f.op==7)=true:=by rw[h7];rfl
          by_cases hi0:i=0
          ·subst hi0
           have HTV:=hid (show tn = !neg by rw[HTN.out,if_pos rfl,h7];cases neg <;> rfl);clear h7;go_wp2_with fail
           refine aO kH.out ⟨?_,rfl⟩ ?_
           ·rw[HTV.out];cases neg <;> rfl
           ·kernel_rfl
          ·have hi0':((i:Int)==0)=false:=by rw[beq_eq_false_iff_ne];omega
           have HTV:=hid (show tn=neg by rw[HTN.out,if_neg hi0];unfold qj;rw[if_neg h4]);clear h7 hi0;go_wp2_with fail
           refine aO kH.out ⟨?_,rfl⟩ ?_
           ·rw[HTV.out];cases neg <;> rfl
           ·kernel_rfl
         ·have e7:=ay h7
          have HTV:=hid (show tn=neg by
           rw[HTN.out];have h0:rG neg f.op=neg:=by unfold rG;rw[if_neg (by omega)]
           have h1:qj neg f.op=neg:=by unfold qj;rw[if_neg h4]
           rw[h0,h1];split <;> rfl)
          clear h7;go_wp2_with fail
          refine aO kH.out ⟨?_,rfl⟩ ?_
          ·rw[HTV.out];cases neg <;> rfl
          ·kernel_rfl
        ·rintro us5 W31 ⟨hu11,hw31⟩
         subst hw31;apply qd2;simp only[jL,List.range',List.range'_succ,Act.put,List.setIfInBounds_toArray,List.set_cons_zero,List.set_cons_succ];rw[hu11];clear qd2 K31;obtain⟨b1,o1,A',c1',g,rfl,HX,hg⟩:=qeQ.out.get hlt
         have hgm:g∈f.args:=by
          have:=HX.out;rw[<-this];simp[List.getD,hlt]
         have HLF2:=hid (show 1<=d by have:=MF.out;omega);have hwd:=IntWalk.i64_in (d-1) (by omega);obtain⟨kg,hkg⟩:∃kg,kg=kf tn g:=⟨_,rfl⟩;obtain⟨ov,hov⟩:∃ov,ov=Gh (o7 neg f.op++(Ht (rG neg f.op) (qj neg f.op) f.args).take i) left d:=⟨_,rfl⟩;rw[<-hov]at gB XR;have HOVE:=hid hov
         have aX:Hid (∀W',Below W31.heap.size W31 W'->Calls Tryz.prog 73 #[.pointer (some ⟨bb,0,none⟩),.pointer (some ⟨b1,o1+i*5,none⟩),.bool tn,.int .i64 (d-1)] W' λ e w5 =>
           ∃g' A5 c5 rV,e = .returned (.agg #[.int .i64 g'.op,.string g'.name,.int .i64 g'.val,.int .i64 g'.bound,.slice A5 g'.args.length c5])/\aH (λ x=>x=bb) W' w5/\aH (λ x=>x=bb) w1 w5/\OB w5 ob (cO neg f.op) f.name v' 0 A2 gs.length c2'/\bT w5 (ob+1) A2 c2' gs sl /\
            BB w5 bb rV (ov || !bK kg left' (d-1))/\bZ w5 (λ x=>Nw (ob+1) w5 x/\(Value.slice A2 gs.length c2').ownBlock≠some x) g'.args A5 c5/\rV<=left' /\ -1<=rV/\((ov || !bK kg left' (d-1))=false->g'=kg/\rV=left'-kg.size/\0<=rV)/\w5.cell? ⟨b,o+4,none⟩=some (.slice (some ⟨b1,o1,none⟩) f.args.length c)):=hid λ W' hb'=>by
          have Zd:=HO.out.below hb';have YZ:bT W' (ob+1) A2 c2' gs sl:=HR.out.eu (aH.aS (V := λ _=>False) hb') λ _ h=>h.elim;have hbb1:=gB.out.below hb';refine(HIH.out g hgm D b1 (o1+i*5) A' c1' tn ov left' (d-1) W' (hg.keep (Keeps.mono (aH.keeps (aH.aS (V := λ _=>False) hb') λ _ _ (_:True) h=>h) λ _ _=>trivial)) HD.out hbb1 (λ h=>(XR.out h).2.2.2) hlm (by omega) (by have:=HLF2.out;omega) (by omega)).mono ?_;rintro e w5 ⟨hc5,v5,g',l5,rfl,⟨A5,c5,rfl,VB⟩,hb5,hl5,hm5,fQ⟩;rw[<-hkg]at hb5 fQ;refine⟨g',A5,c5,l5,rfl,hc5,(HIC.out.trans (aH.aS hb')).trans hc5,Zd.eu hc5 (by omega),YZ.eu hc5 λ x hx=>by have:=BI.out;have:=HS1.out;omega,hb5,?_,hl5,hm5,fQ,?_⟩
          ·have hob2:=lt_of_block Zd
           refine VB.mono λ x hx _=>⟨⟨by have:=hx.1;omega,hx.2⟩,λ e=>?_⟩;have:=(YZ.ge e).2;have:=hx.1;omega
          ·have:=(HHR.out.keep (aH.keeps ((aH.aS (V := λ x=>x=bb) hb').trans hc5) λ k _ hk hv=>HD.out k hk hv)).c4
           exact this
         obtain⟨i0,hti,hz0,hz1,hz2⟩:=info_parts je;have qbp:bb<ob+1:=by have:=BI.out;have:=HS1.out;omega
         obtain⟨x0,x1,x2,x3,x4,xl⟩:=HO.out.cells;have HKG:=hid hkg;have HXG:=hid HX.out;clear HX hgm hkg hov c0 c1 c2 c3 x0 x1 x2 x3;have hgl1:(gs.length:Int)<(gs.length:Int)+1:=by omega
         go_upto_region 31 with(fail)
         rename_i K32 z1 z2 Q32 qd3
         refine kF K32 (List.range' 154 18) (λ us W'=>TD bb ob w1 (cO neg f.op) f.name (nO neg f.op f.val) left d (o7 neg f.op++(Ht (rG neg f.op) (qj neg f.op) f.args).take (i+1)) (1+(i+1)) W') ?_ ?_
         ·intro us6 W32 hI32
          apply qd3;simp only[jL,List.range',List.range'_succ,Act.put,List.setIfInBounds_toArray,List.set_cons_zero,List.set_cons_succ];clear qd3 K32 c4 x4 l1 l2 xl;go_wp2_with fail
          go_roundw
          case rel=>exact⟨i+1,by omega,by go_num,hI32⟩
          case measure=>simp[intOf];omega
         intro gK;have kH:=hid gK
         have qfp:=hid (show o7 neg f.op++(Ht (rG neg f.op) (qj neg f.op) f.args).take (i+1)=(o7 neg f.op++(Ht (rG neg f.op) (qj neg f.op) f.args).take i) ++ [kg]by
          rw[Zl _ _ _ hlt,List.append_assoc,HKG.out,HTN.out,HXG.out])
         clear gK qd3
         go_region_law (first|(refine dG _ (by rfl) _ _ 22 (by rfl) (ob+1) 24 i0 _ 5 64 Tryz.underlying22 hti hz0 hz1 hz2 rfl (by omega) (.slice A2 gs.length c2') gs.length (bQ gs sl) (by rfl) (by first|exact DN.own|exact(DN.alloc _).own|exact(DN.alloc _).drew.own) _ (some ⟨w5.heap.size,0,none⟩) 1 1 qc (by rfl) (by first|exact Rd.fresh (D:=aW) rfl trivial rfl (by omega)|exact Rd.Cj (D:=aW) rfl trivial rfl (by omega)) (by simp[qc,Value.oneCell']) (by have:=HLEN.out;simp only[manyN]at this;omega) (dJ (by have:=HLEN.out;simp only[manyN]at this;omega)) (by have:=lt_of_block fQ;simp;omega) ?_;intro A6 c6 w6 hown Y0 hblk;obtain⟨g6,rfl,hge6,hr6,Xr,hb6,hf6,hc6⟩:=IC (w5:=w5) (by first|exact aH.refl _ _|exact(aH.refl _ _).alloc _|exact((aH.refl _ _).alloc _).drew) DN rfl rfl rfl hown Y0 hblk fQ (Nat.lt_succ_self _) hb5 qbp hf5;obtain⟨r0,r1,r2,r3,r4,t0,t1,t2,t3,t4,rl⟩:=lN hown (j:=gs.length*5) (by rw[List.drop_left' (iM DN.len)];rfl);have q54:=aj Xr (i:=4) rfl;have p54:=Xr.free 4;have l54:=lt_of_block Xr;have hgo:¬ob=g6:=(by omega);have hgo':¬g6=ob := λ e=>hgo e.symm)|(refine dG _ (by rfl) _ _ 22 (by rfl) (ob+1) 24 i0 _ 5 64 Tryz.underlying22 hti hz0 hz1 hz2 rfl (by omega) (.slice A2 gs.length c2') gs.length (bQ gs sl) (by rfl) (by first|exact DN.own|exact(DN.alloc _).own|exact(DN.alloc _).drew.own) _ (some ⟨W31.heap.size,0,none⟩) 1 1 qc (by rfl) (by first|exact(Rd.fresh (w:=W31) (D := λ k=>k=W31.heap.size) rfl rfl rfl (by omega)).keep (hc5.keeps λ k _ hk hv=>by omega)|exact(Rd.Cj (w:=W31) (D := λ k=>k=W31.heap.size) rfl rfl rfl (by omega)).keep (hc5.keeps λ k _ hk hv=>by omega)) (by simp[qc,Value.oneCell']) (by have:=HLEN.out;simp only[manyN]at this;omega) (dJ (by have:=HLEN.out;simp only[manyN]at this;omega)) (by have:=lt_of_block fQ;simp;omega) ?_;intro A6 c6 w6 hown Y0 hblk;obtain⟨g6,rfl,hge6,hr6,Xr,hb6,hf6,hc6⟩:=IC (w5:=w5) (by first|exact aH.refl _ _|exact(aH.refl _ _).alloc _|exact((aH.refl _ _).alloc _).drew) DN rfl rfl rfl hown Y0 hblk fQ (Nat.lt_succ_self _) hb5 qbp hf5;obtain⟨r0,r1,r2,r3,r4,t0,t1,t2,t3,t4,rl⟩:=lN hown (j:=gs.length*5) (by rw[List.drop_left' (iM DN.len)];rfl);have q54:=aj Xr (i:=4) rfl;have p54:=Xr.free 4;have l54:=lt_of_block Xr;have hgo:¬ob=g6:=(by omega);have hgo':¬g6=ob := λ e=>hgo e.symm)|(go_simp;go_at_call 73;(with_reducible refine(aX.out _ (by first|exact Below.refl _ _|exact(Below.refl _ _).drew|exact(Below.refl _ _).alloc (Nat.le_refl _) _|exact((Below.refl _ _).alloc (Nat.le_refl _) _).drew|go_grown)).mono ?_);rintro e w5 ⟨g',A5,c5,rV,rfl,hc5,hcw5,fQ,DN,hb5,hf5,hl5,hm5,qby,hc45⟩;have q4:=aj fQ (i:=4) rfl;have ql:=lt_of_block fQ))
         all_goals
          show K32 _ _;refine yS λ WF hWF=>?_;have Ze:bb≠ob := λ h=>Aw h.symm;have Zd:ob<ob+1:=by omega
          have hwo:w1.heap.size<=ob:=by have:=BI.out;omega
          have qgl:aH (λ x=>x=bb) w1 w6:=hcw5.trans' hc6 λ x hx h=>by have:=BI.out;omega
          have happ:Ey bb ob (ob+1) (cO neg f.op) f.name v' 0 rV (ov || !bK kg left' (d-1)) (gs ++ [g']) w1 WF:=by
           rw[hWF]
           first
            | with_reducible exact Yl rfl rfl Ze Zd qbp hwo qgl hb6 Xr hr6 hf6
            | with_reducible exact Ym rfl rfl Ze Zd qbp hwo qgl hb6 Xr hr6 hf6
          clear hWF;refine aO kH.out ?_ ?_
          ·rw[qfp.out]
           exact Vs HOVE.out XR.out qby hgl hll hl5 hm5 happ
          ·kernel_rfl
       ·have hii:¬(i:Int)<f.args.length:=by omega
        obtain⟨x0,x1,x2,x3,x4,xl⟩:=HO.out.cells;obtain⟨r0,r1,r2,r3,r4,rl⟩:=(HR1.out.eu HIC.out (by omega)).cells;have p0:=(HR1.out.eu HIC.out (by omega)).free 0;have p1:=(HR1.out.eu HIC.out (by omega)).free 1;have p2:=(HR1.out.eu HIC.out (by omega)).free 2;have p3:=(HR1.out.eu HIC.out (by omega)).free 3;have p4:=(HR1.out.eu HIC.out (by omega)).free 4;go_wp2_with fail
        refine aK λ WE fD=>?_;have hro:=HR1.out.eu HIC.out (by omega)
        have hOW:OB WE w.heap.size (cO neg f.op) f.name v' 0 A2 gs.length c2':=by
         unfold OB;rw[fD,aB (aB (aB (aB (aB hro _) _) _) _)];rfl
        have hcE:aH (λ x=>x=w.heap.size) wr WE:=by
         rw[fD];exact(((((aH.refl (λ x=>x=w.heap.size) wr).set ⟨w.heap.size,0,none⟩ _ λ _=>rfl).set ⟨w.heap.size,1,none⟩ _ λ _=>rfl).set ⟨w.heap.size,2,none⟩ _ λ _=>rfl).set ⟨w.heap.size,3,none⟩ _ λ _=>rfl).set ⟨w.heap.size,4,none⟩ _ λ _=>rfl
        have hie:(Ht (rG neg f.op) (qj neg f.op) f.args).take i=Ht (rG neg f.op) (qj neg f.op) f.args:=List.take_of_length_le (by rw[KI];omega);obtain⟨y0,y1,y2,y3,y4,yl⟩:=hOW.cells;have hfin:=YL (bb:=bb) (ob:=ob) (rb:=w.heap.size) (k:=gs.length) hs h4 h13 Rh h3 (by rw[hie]) Mc.out HIC.out (Nat.le_refl _) (by have:=BI.out;have:=HS1.out;omega) hbl HR.out gB.out rfl (by have:=HLEN.out;simp only[manyN]at this;omega) hll hlm XR.out hcE;clear fD hro hcE;exact bodyPost_ret (v := .agg #[.int .i64 (cO neg f.op),.string f.name,.int .i64 v',.int .i64 0,.slice A2 gs.length c2']) (by simp[results,Tryz.results73,go_sem,y0,y1,y2,y3,y4]) rfl hfin
end Go.Proofs.YtdpbgcmfeajigaaGreatDoor
