/-
  Walk of the builder's form at a node that has its own operator.
-/
import Derived.Test.YtdpbgcmfeajigaaGreatDoorT12
set_option linter.unusedSimpArgs false
set_option linter.unusedVariables false
set_option maxHeartbeats 8000000
set_option maxRecDepth 100000
namespace Go.Proofs.YtdpbgcmfeajigaaGreatDoor
open Go.RowKit Go.Shelf
attribute [local go_sem] ak jM nM jL
theorem OB.cells {w:World}{ob:Nat}{o:Int}{n:ByteArray}{v b:Int}{A:Option Addr}{k c:Nat}(h:OB w ob o n v b A k c):w.cell? ⟨ob,0,none⟩=some (.int .i64 o)/\w.cell? ⟨ob,1,none⟩=some (.string n)/\w.cell? ⟨ob,2,none⟩=some (.int .i64 v)/\w.cell? ⟨ob,3,none⟩=some (.int .i64 b)/\w.cell? ⟨ob,4,none⟩=some (.slice A k c)/\ob<w.heap.size :=
 ⟨aj h rfl,aj h rfl,aj h rfl,aj h rfl,aj h rfl,lt_of_block h⟩
theorem OB.free {w:World}{ob:Nat}{o:Int}{n:ByteArray}{v b:Int}{A:Option Addr}{k c:Nat}(h:OB w ob o n v b A k c)(i:Nat):w.frozen? ⟨ob,i,none⟩=false:=aA h
theorem dB.zero {bb rb:Nat}{k:Fm}{left left':Int}{w w':World}(hc:aH (fun x=>x=bb) w w')(hb:BB w' bb left' true)(hl:left'<=left)(hm : -1<=left') :
  dB bb k left true w (.returned (.agg #[.int .i64 0,.string ⟨#[]⟩,.int .i64 0,.int .i64 0,.slice none 0 0])) w' :=
 ⟨hc,_,dV,left',rfl,⟨none,0,rfl,bV.nil _ _ _ (by omega)⟩,hb,hl,hm,fun h=>by cases h⟩
theorem Nb (bb:Nat)(f:Fm)(hs:cu f=true)(ih:∀g,g∈f.args->zK bb g)(h4:f.op≠4)(h13:f.op≠13)(Qy:f.op≠14)
  {D:Dom} {b o:Nat} {A:Option Addr} {c:Nat} {neg:Bool} {left d:Int} {w:World} (h3:f.op=3->neg=false)
  (h:dR w D b o f A c) (hD:∀k,D k->k≠bb) (hB:BB w bb left false) (hl0:0<=left) (hl2:left<=1000000) (hd1 : -1000000<=d) (hd2:d<=1000000) :
  Calls Tryz.prog 73 #[.pointer (some ⟨bb,0,none⟩),.pointer (some ⟨b,o,none⟩),.bool neg,.int .i64 d] w (dB bb (kf neg f) left (!bM (kf neg f) left d) w):=by
 have HH:=hid h;have HD:=hid hD;have HB:=hid hB;have HIH:=hid ih;have hbl:=lt_of_block hB;have hlt:=h.lt;have hbne:=hD b h.dom;clear hB h ih;have e4:=ay h4;have e13:=ay h13;have e14:=ay Qy
 go_enter Tryz.func73,Tryz.ntmps73
 go_upto_region 1 with(fail)
 refine aF fun W hW=>?_;have HW:=hid (show aH (fun x=>x=bb) w W by rw[hW];exact(aH.refl _ w).alloc _);have dZ:=hid (show OB W w.heap.size 0 ⟨#[]⟩ 0 0 none 0 0 by rw[hW];exact at_new _ _ _ rfl);have aT:=hid (HB.out.below (show Below w.heap.size w W by rw[hW];go_grown));have HT:=hid (take_any bb left d false W aT.out (by omega) (by omega));have jE:=hid (show W.heap.size=w.heap.size+1 by rw[hW];simp);clear hW
 rename_i K11 qcR K1 hK1
 refine jY K11 (List.range' 12 76) (fun _ W'=>W'=W) ?_ ?_
 rotate_left
 ·--<<
  intro gX;clear qcR;have lH:=hid gX;have b1:=aj aT.out (i:=1) rfl;obtain⟨_,hl1,c0,c1,c2,c3,c4,_⟩:=HH.out.keep (HW.out.keeps fun k _ hk hv=>HD.out k hk hv);clear gX
  by_cases hq3:f.op=3
  ·have hn:=h3 hq3
   subst hn;have e3:(f.op==3)=true:=by rw[hq3];rfl
   clear hq3 h3;go_wp2_with fail
   refine aP lH.out rfl ?_
   kernel_rfl
  ·have e3:=ay hq3
   clear hq3 h3;go_wp2_with fail
   refine aP lH.out rfl ?_
   kernel_rfl
  -->>
 ·intro us W1 hW1
  obtain rfl:=hW1;apply qcR;clear hK1 qcR K1 K11;simp only[jH,List.range',List.range'_succ,Act.put,List.setIfInBounds_toArray,List.set_cons_zero,List.set_cons_succ]
  cases htk:eP left false d <;> rw[htk]at HT <;> (have Eb:=hid htk) <;> clear htk
  rotate_left
  ·obtain⟨rb,hrb⟩:∃rb,rb=w.heap.size:=⟨_,rfl⟩
   rw[<-hrb]at dZ⊢;have nT:¬rb=bb:=by omega
   have sJ:=hid hrb;clear hrb;go_wp2_with (first|(go_at_call 110;refine HT.out.mono ?_;rintro e w1 ⟨rfl,hc1,hb1⟩;obtain⟨r0,r1,r2,r3,r4,rl⟩:=(dZ.out.dX hc1 nT).cells;have p0:=(dZ.out.dX hc1 nT).free 0;have p1:=(dZ.out.dX hc1 nT).free 1;have p2:=(dZ.out.dX hc1 nT).free 2;have p3:=(dZ.out.dX hc1 nT).free 3;have p4:=(dZ.out.dX hc1 nT).free 4))
   refine aK fun WE fJ=>?_;have gq:=dZ.out.dX hc1 nT;have ji:OB WE rb 0 ⟨#[]⟩ 0 0 none 0 0:=by rw[fJ];exact bF gq
   have hcE:aH (fun x=>x=rb) w1 WE:=by rw[fJ];exact aN _ _ _ _ _ _ _
   obtain⟨y0,y1,y2,y3,y4,yl⟩:=ji.cells;have hov:(!bM (kf neg f) left d)=true:=by rw[TD hs h4 h13 Qy h3,Ku];exact YI Eb.out
   clear fJ r0 r1 r2 r3 r4 p0 p1 p2 p3 p4;rw[hov]
   exact bodyPost_ret (v := .agg #[.int .i64 0,.string ⟨#[]⟩,.int .i64 0,.int .i64 0,.slice none 0 0]) (by simp[results,Tryz.results73,go_sem,y0,y1,y2,y3,y4]) rfl
    (dB.zero (rb:=0) ((HW.out.trans hc1).trans' hcE fun x hx h=>by have:=sJ.out;omega) (BB.dX hb1 hcE (fun h=>nT h.symm)) (by omega) (by omega))
  ·go_upto_region 13 with(first|(go_at_call 110;refine HT.out.mono ?_;rintro e w1 ⟨rfl,hc1,hb1⟩))
   rename_i K14 qcS
   have JU:=hid (HW.out.trans hc1);have HB1:=hid hb1;have HR1:=hid (dZ.out.dX hc1 (by omega));have HS1:=hid (show w.heap.size+1<=w1.heap.size by have:=hc1.size;have:=jE.out;omega);obtain⟨_,hl1,c0,c1,c2,c3,c4,_⟩:=HH.out.keep (JU.out.keeps fun k _ hk hv=>HD.out k hk hv);clear hc1 hb1;obtain⟨ob,hob⟩:∃ob,ob=w1.heap.size:=⟨_,rfl⟩;have PN:=hid hob;refine jY K14 (9 :: List.range' 93 14) (fun us W'=>us 9 = .pointer (some ⟨ob,0,none⟩)/\aH (fun x=>x=bb) w1 W'/\OB W' ob (FP f.op) f.name f.val 0 none 0 0/\ob<W'.heap.size/\BB W' bb (left-1) false) ?_ ?_
   rotate_left
   ·--<<
    intro gX;have lH:=hid gX;clear gX qcS hob
    go_region_held3 (fun W':World=>W'.cell? ⟨b,o,none⟩=some (.int .i64 f.op)/\W'.cell? ⟨b,o+1,none⟩=some (.string f.name)/\W'.cell? ⟨b,o+2,none⟩=some (.int .i64 f.val))
     (first|(go_keep;done))
     ((go_at_call 112;with_reducible refine(Nc f.op _).mono ?_;rintro e w9 ⟨rfl,Ai⟩;rw[Ai];clear Ai))
    all_goals
     show K14 _ _;refine yM fun W13 qar=>?_;refine aP lH.out ⟨by rw[PN.out];rfl,?_,?_,?_,?_⟩ ?_
     ·rw[qar];exact((aH.refl _ w1).alloc _).drew
     ·rw[qar,PN.out];exact at_new _ _ _ rfl
     ·rw[qar,PN.out];simp
     ·rw[qar];exact(aQ _ _ _ (lt_of_block HB1.out)).trans HB1.out
     ·kernel_rfl
    -->>
   ·rintro us2 W13 ⟨hu9,hc13,qfq,qfl,X4⟩
    apply qcS;simp only[jH,List.range',List.range'_succ,Act.put,List.setIfInBounds_toArray,List.set_cons_zero,List.set_cons_succ];rw[hu9];clear qcS c0 c1 c2 c3 c4 hl1;have Ah:¬ob=bb:=by have:=HS1.out;omega
    have Bz:=hid hob;clear hob;have qbX:=hid hc13;have WS:=hid qfq;have Wx:=hid X4;obtain⟨x0,x1,x2,x3,x4,xl⟩:=WS.out.cells;have y0:=WS.out.free 0;have hob0:=qfl;clear hc13 qfq X4;go_upto_region 14 with(fail)
    rename_i K16 qcT K15 Kw
    refine jY K16 (List.range' 107 5) (fun us W'=>aH (fun x=>x=bb) w1 W'/\OB W' ob (cZ neg f.op) f.name f.val 0 none 0 0/\BB W' bb (left-1) false) ?_ ?_
    rotate_left
    ·--<<
     intro gX;have lH:=hid gX;clear gX qcT;cases neg
     ·go_wp2_with fail
      refine aP lH.out ⟨qbX.out,WS.out,Wx.out⟩ ?_
      kernel_rfl
     ·go_wp2_with (first|(go_at_call 113;refine(MX _ _).mono ?_;rintro e w9 ⟨rfl,Ai⟩;rw[Ai];clear Ai))
      refine aP lH.out ⟨?_,?_,?_⟩ ?_
      ·exact qbX.out.set ⟨ob,0,none⟩ _ fun h=>by have:=Bz.out;simp only[]at h;omega
      ·unfold OB
       rw[aB WS.out];rfl
      ·exact BB.dX Wx.out ((aH.refl (fun x=>x=ob) W13).set ⟨ob,0,none⟩ _ fun _=>rfl) (fun h=>Ah h.symm)
      ·kernel_rfl
     -->>
    ·rintro us3 W16 ⟨hc16,qaz,hb16⟩
     apply qcT;simp only[jH,List.range',List.range'_succ,Act.put,List.setIfInBounds_toArray,List.set_cons_zero,List.set_cons_succ];clear qcT Kw K16 K15 x0 x1 x2 x3 x4 xl y0 WS qbX qfl;have EK:=hid hc16;have EP:=hid qaz;have vY:=hid hb16;obtain⟨x0,x1,x2,x3,x4,xl⟩:=qaz.cells;have y2:=qaz.free 2;obtain⟨_,hl16,c0,c1,c2,c3,c4,_⟩:=HH.out.keep ((JU.out.trans hc16).keeps fun k _ hk hv=>HD.out k hk hv);have LM:=hid (show 1<=left/\1<=d by have:=Eb.out;unfold eP at this;simp at this;omega);have SG:=hid (show ob+1<=W16.heap.size from xl);clear hc16 qaz hb16;go_upto_region 16 with(fail)
     rename_i K27 qcU K17 hK17
     refine jY K27 (List.range' 112 23) (fun us W'=>Sl bb ob w1 (cZ neg f.op) f.name (ng neg f.op f.val) left d (oV neg f.op) 1 W') ?_ ?_
     rotate_left
     ·--<<
      intro gX;have lH:=hid gX;clear gX qcU
      by_cases hop:f.op=15
      ·have e15:(f.op==15)=true:=by rw[hop];rfl
       have hvb:0<=f.val/\f.val<=1:=by have:=jI hs;rw[hop]at this;exact⟨this.2.2.2.1,this.2.2.2.2.1⟩
       have hwv:=IntWalk.i64_in (1-f.val) (by omega);have HV:=hid (show ng neg f.op f.val=(if neg then 1-f.val else f.val)by rw[hop];cases neg <;> rfl);have HL:=hid (show oV neg f.op = []by rw[hop];rfl);have e16:(f.op==16)=false:=by rw[hop];rfl
       have e17:(f.op==17)=false:=by rw[hop];rfl
       have e11:(f.op==11)=false:=by rw[hop];rfl
       have e12:(f.op==12)=false:=by rw[hop];rfl
       have e18:(f.op==18)=false:=by rw[hop];rfl
       have e19:(f.op==19)=false:=by rw[hop];rfl
       clear hop h4 h13 Qy;cases neg
       ·go_wp2_with fail
        refine aP lH.out ?_ ?_
        ·exact⟨EK.out,f.val,none,0,[],[],left-1,EP.out,bT.nil _ _,by rw[HL.out,rO,Eb.out];exact vY.out,Nat.zero_le _,by omega,by omega,fun _=>⟨HV.out.symm,HL.out.symm,by rw[HL.out];simp[sizes],by have:=LM.out;omega⟩⟩
        ·kernel_rfl
       ·go_wp2_with fail
        refine aP lH.out ?_ ?_
        ·refine⟨EK.out.set ⟨ob,2,none⟩ _ fun h=>by have:=Bz.out;simp only[]at h;omega,1-f.val,none,0,[],[],left-1,?_,bT.nil _ _,?_,Nat.zero_le _,by omega,by omega,fun _=>⟨HV.out.symm,HL.out.symm,by rw[HL.out];simp[sizes],by have:=LM.out;omega⟩⟩
         ·unfold OB
          rw[aB EP.out];rfl
         ·rw[HL.out,rO,Eb.out]
          exact BB.dX vY.out ((aH.refl (fun x=>x=ob) W16).set ⟨ob,2,none⟩ _ fun _=>rfl) (fun h=>Ah h.symm)
        ·kernel_rfl
      have e15:=ay hop;have n15:=hop;clear hop
      by_cases hop:f.op=16
      ·have e16:(f.op==16)=true:=by rw[hop];rfl
       have hvb:0<=f.val/\f.val<=1:=by have:=jI hs;rw[hop]at this;exact⟨this.2.2.2.1,this.2.2.2.2.1⟩
       have hwv:=IntWalk.i64_in (1-f.val) (by omega);have HV:=hid (show ng neg f.op f.val=(if neg then 1-f.val else f.val)by rw[hop];cases neg <;> rfl);have HL:=hid (show oV neg f.op = []by rw[hop];rfl);have e15:(f.op==15)=false:=by rw[hop];rfl
       have e17:(f.op==17)=false:=by rw[hop];rfl
       have e11:(f.op==11)=false:=by rw[hop];rfl
       have e12:(f.op==12)=false:=by rw[hop];rfl
       have e18:(f.op==18)=false:=by rw[hop];rfl
       have e19:(f.op==19)=false:=by rw[hop];rfl
       clear hop h4 h13 Qy;cases neg
       ·go_wp2_with fail
        refine aP lH.out ?_ ?_
        ·exact⟨EK.out,f.val,none,0,[],[],left-1,EP.out,bT.nil _ _,by rw[HL.out,rO,Eb.out];exact vY.out,Nat.zero_le _,by omega,by omega,fun _=>⟨HV.out.symm,HL.out.symm,by rw[HL.out];simp[sizes],by have:=LM.out;omega⟩⟩
        ·kernel_rfl
       ·go_wp2_with fail
        refine aP lH.out ?_ ?_
        ·refine⟨EK.out.set ⟨ob,2,none⟩ _ fun h=>by have:=Bz.out;simp only[]at h;omega,1-f.val,none,0,[],[],left-1,?_,bT.nil _ _,?_,Nat.zero_le _,by omega,by omega,fun _=>⟨HV.out.symm,HL.out.symm,by rw[HL.out];simp[sizes],by have:=LM.out;omega⟩⟩
         ·unfold OB
          rw[aB EP.out];rfl
         ·rw[HL.out,rO,Eb.out]
          exact BB.dX vY.out ((aH.refl (fun x=>x=ob) W16).set ⟨ob,2,none⟩ _ fun _=>rfl) (fun h=>Ah h.symm)
        ·kernel_rfl
      have e16:=ay hop;have n16:=hop;clear hop
      by_cases hop:f.op=17
      ·have e17:(f.op==17)=true:=by rw[hop];rfl
       have hvb:0<=f.val/\f.val<=1:=by have:=jI hs;rw[hop]at this;exact⟨this.2.2.2.1,this.2.2.2.2.1⟩
       have hwv:=IntWalk.i64_in (1-f.val) (by omega);have HV:=hid (show ng neg f.op f.val=(if neg then 1-f.val else f.val)by rw[hop];cases neg <;> rfl);have HL:=hid (show oV neg f.op = []by rw[hop];rfl);have e15:(f.op==15)=false:=by rw[hop];rfl
       have e16:(f.op==16)=false:=by rw[hop];rfl
       have e11:(f.op==11)=false:=by rw[hop];rfl
       have e12:(f.op==12)=false:=by rw[hop];rfl
       have e18:(f.op==18)=false:=by rw[hop];rfl
       have e19:(f.op==19)=false:=by rw[hop];rfl
       clear hop h4 h13 Qy;cases neg
       ·go_wp2_with fail
        refine aP lH.out ?_ ?_
        ·exact⟨EK.out,f.val,none,0,[],[],left-1,EP.out,bT.nil _ _,by rw[HL.out,rO,Eb.out];exact vY.out,Nat.zero_le _,by omega,by omega,fun _=>⟨HV.out.symm,HL.out.symm,by rw[HL.out];simp[sizes],by have:=LM.out;omega⟩⟩
        ·kernel_rfl
       ·go_wp2_with fail
        refine aP lH.out ?_ ?_
        ·refine⟨EK.out.set ⟨ob,2,none⟩ _ fun h=>by have:=Bz.out;simp only[]at h;omega,1-f.val,none,0,[],[],left-1,?_,bT.nil _ _,?_,Nat.zero_le _,by omega,by omega,fun _=>⟨HV.out.symm,HL.out.symm,by rw[HL.out];simp[sizes],by have:=LM.out;omega⟩⟩
         ·unfold OB
          rw[aB EP.out];rfl
         ·rw[HL.out,rO,Eb.out]
          exact BB.dX vY.out ((aH.refl (fun x=>x=ob) W16).set ⟨ob,2,none⟩ _ fun _=>rfl) (fun h=>Ah h.symm)
        ·kernel_rfl
      have e17:=ay hop;have n17:=hop;clear hop
      by_cases hop:f.op=11
      ·have e11:(f.op==11)=true:=by rw[hop];rfl
       have h1:uQ f.op=true:=by rw[hop];rfl
       have HV:=hid (AB (neg:=neg) (v:=f.val) h1 (by rw[hop];rfl));have HL:=hid (yg (neg:=neg) h1);have sH:=hid (Az bb ob (cZ neg f.op) f.name f.val (left-1) d false W16 (fun h=>Ah h.symm) vY.out EP.out (by have:=LM.out;omega) (by omega) hd1 hd2);clear h1;have e15:(f.op==15)=false:=by rw[hop];rfl
       have e16:(f.op==16)=false:=by rw[hop];rfl
       have e17:(f.op==17)=false:=by rw[hop];rfl
       have e12:(f.op==12)=false:=by rw[hop];rfl
       have e18:(f.op==18)=false:=by rw[hop];rfl
       have e19:(f.op==19)=false:=by rw[hop];rfl
       clear hop h4 h13 Qy;go_wp2_with (first|(go_at_call 114;refine sH.out.mono ?_;rintro e w9 ⟨⟨r9,rfl⟩,hlo⟩))
       refine aP lH.out ?_ ?_
       ·rw[HL.out]
        obtain⟨q1,q2,q3,q4⟩:=hlo;have hov:Gi [kK (lU (cZ neg f.op)) []] left d=eP (left-1) false (d-1):=by rw[AU _ rfl,Eb.out];rfl
        have hch:aH (fun x=>x=bb) w1 w9:=EK.out.trans' q1 fun k hk h=>by have:=Bz.out;omega
        cases uP:eP (left-1) false (d-1)
        ·rw[uP]at q2 q4 hov
         obtain⟨A2,c2,q5,q6⟩:=q4 rfl
         have hl2:0<=left-1-1:=by
          unfold eP at uP;simp at uP;omega
         exact⟨hch,_,A2,c2,_,_,left-1-1,q5,q6.base SG.out,by rw[hov];exact q2,Nat.le_refl _,by omega,by omega,fun _=>⟨HV.out.symm,rfl,by simp[sizes,kK,Fm.size];omega,hl2⟩⟩
        ·rw[uP]at q2 q3 hov
         exact⟨hch,_,none,0,[],[],left-1-1,q3 rfl,bT.nil _ _,by rw[hov];exact q2,Nat.zero_le _,by omega,by have:=LM.out;omega,fun h=>by rw[hov]at h;cases h⟩
       ·kernel_rfl
      have e11:=ay hop;have n11:=hop;clear hop
      by_cases hop:f.op=12
      ·have e12:(f.op==12)=true:=by rw[hop];rfl
       have h1:uQ f.op=true:=by rw[hop];rfl
       have HV:=hid (AB (neg:=neg) (v:=f.val) h1 (by rw[hop];rfl));have HL:=hid (yg (neg:=neg) h1);have sH:=hid (Az bb ob (cZ neg f.op) f.name f.val (left-1) d false W16 (fun h=>Ah h.symm) vY.out EP.out (by have:=LM.out;omega) (by omega) hd1 hd2);clear h1;have e15:(f.op==15)=false:=by rw[hop];rfl
       have e16:(f.op==16)=false:=by rw[hop];rfl
       have e17:(f.op==17)=false:=by rw[hop];rfl
       have e11:(f.op==11)=false:=by rw[hop];rfl
       have e18:(f.op==18)=false:=by rw[hop];rfl
       have e19:(f.op==19)=false:=by rw[hop];rfl
       clear hop h4 h13 Qy;go_wp2_with (first|(go_at_call 114;refine sH.out.mono ?_;rintro e w9 ⟨⟨r9,rfl⟩,hlo⟩))
       refine aP lH.out ?_ ?_
       ·rw[HL.out]
        obtain⟨q1,q2,q3,q4⟩:=hlo;have hov:Gi [kK (lU (cZ neg f.op)) []] left d=eP (left-1) false (d-1):=by rw[AU _ rfl,Eb.out];rfl
        have hch:aH (fun x=>x=bb) w1 w9:=EK.out.trans' q1 fun k hk h=>by have:=Bz.out;omega
        cases uP:eP (left-1) false (d-1)
        ·rw[uP]at q2 q4 hov
         obtain⟨A2,c2,q5,q6⟩:=q4 rfl
         have hl2:0<=left-1-1:=by
          unfold eP at uP;simp at uP;omega
         exact⟨hch,_,A2,c2,_,_,left-1-1,q5,q6.base SG.out,by rw[hov];exact q2,Nat.le_refl _,by omega,by omega,fun _=>⟨HV.out.symm,rfl,by simp[sizes,kK,Fm.size];omega,hl2⟩⟩
        ·rw[uP]at q2 q3 hov
         exact⟨hch,_,none,0,[],[],left-1-1,q3 rfl,bT.nil _ _,by rw[hov];exact q2,Nat.zero_le _,by omega,by have:=LM.out;omega,fun h=>by rw[hov]at h;cases h⟩
       ·kernel_rfl
      have e12:=ay hop;have n12:=hop;clear hop
      by_cases hop:f.op=18
      ·have e18:(f.op==18)=true:=by rw[hop];rfl
       have h1:uQ f.op=true:=by rw[hop];rfl
       have HV:=hid (AB (neg:=neg) (v:=f.val) h1 (by rw[hop];rfl));have HL:=hid (yg (neg:=neg) h1);have sH:=hid (Az bb ob (cZ neg f.op) f.name f.val (left-1) d false W16 (fun h=>Ah h.symm) vY.out EP.out (by have:=LM.out;omega) (by omega) hd1 hd2);clear h1;have e15:(f.op==15)=false:=by rw[hop];rfl
       have e16:(f.op==16)=false:=by rw[hop];rfl
       have e17:(f.op==17)=false:=by rw[hop];rfl
       have e11:(f.op==11)=false:=by rw[hop];rfl
       have e12:(f.op==12)=false:=by rw[hop];rfl
       have e19:(f.op==19)=false:=by rw[hop];rfl
       clear hop h4 h13 Qy;go_wp2_with (first|(go_at_call 114;refine sH.out.mono ?_;rintro e w9 ⟨⟨r9,rfl⟩,hlo⟩))
       refine aP lH.out ?_ ?_
       ·rw[HL.out]
        obtain⟨q1,q2,q3,q4⟩:=hlo;have hov:Gi [kK (lU (cZ neg f.op)) []] left d=eP (left-1) false (d-1):=by rw[AU _ rfl,Eb.out];rfl
        have hch:aH (fun x=>x=bb) w1 w9:=EK.out.trans' q1 fun k hk h=>by have:=Bz.out;omega
        cases uP:eP (left-1) false (d-1)
        ·rw[uP]at q2 q4 hov
         obtain⟨A2,c2,q5,q6⟩:=q4 rfl
         have hl2:0<=left-1-1:=by
          unfold eP at uP;simp at uP;omega
         exact⟨hch,_,A2,c2,_,_,left-1-1,q5,q6.base SG.out,by rw[hov];exact q2,Nat.le_refl _,by omega,by omega,fun _=>⟨HV.out.symm,rfl,by simp[sizes,kK,Fm.size];omega,hl2⟩⟩
        ·rw[uP]at q2 q3 hov
         exact⟨hch,_,none,0,[],[],left-1-1,q3 rfl,bT.nil _ _,by rw[hov];exact q2,Nat.zero_le _,by omega,by have:=LM.out;omega,fun h=>by rw[hov]at h;cases h⟩
       ·kernel_rfl
      have e18:=ay hop;have n18:=hop;clear hop
      by_cases hop:f.op=19
      ·have e19:(f.op==19)=true:=by rw[hop];rfl
       have h1:uQ f.op=true:=by rw[hop];rfl
       have HV:=hid (AB (neg:=neg) (v:=f.val) h1 (by rw[hop];rfl));have HL:=hid (yg (neg:=neg) h1);have sH:=hid (Az bb ob (cZ neg f.op) f.name f.val (left-1) d false W16 (fun h=>Ah h.symm) vY.out EP.out (by have:=LM.out;omega) (by omega) hd1 hd2);clear h1;have e15:(f.op==15)=false:=by rw[hop];rfl
       have e16:(f.op==16)=false:=by rw[hop];rfl
       have e17:(f.op==17)=false:=by rw[hop];rfl
       have e11:(f.op==11)=false:=by rw[hop];rfl
       have e12:(f.op==12)=false:=by rw[hop];rfl
       have e18:(f.op==18)=false:=by rw[hop];rfl
       clear hop h4 h13 Qy;go_wp2_with (first|(go_at_call 114;refine sH.out.mono ?_;rintro e w9 ⟨⟨r9,rfl⟩,hlo⟩))
       refine aP lH.out ?_ ?_
       ·rw[HL.out]
        obtain⟨q1,q2,q3,q4⟩:=hlo;have hov:Gi [kK (lU (cZ neg f.op)) []] left d=eP (left-1) false (d-1):=by rw[AU _ rfl,Eb.out];rfl
        have hch:aH (fun x=>x=bb) w1 w9:=EK.out.trans' q1 fun k hk h=>by have:=Bz.out;omega
        cases uP:eP (left-1) false (d-1)
        ·rw[uP]at q2 q4 hov
         obtain⟨A2,c2,q5,q6⟩:=q4 rfl
         have hl2:0<=left-1-1:=by
          unfold eP at uP;simp at uP;omega
         exact⟨hch,_,A2,c2,_,_,left-1-1,q5,q6.base SG.out,by rw[hov];exact q2,Nat.le_refl _,by omega,by omega,fun _=>⟨HV.out.symm,rfl,by simp[sizes,kK,Fm.size];omega,hl2⟩⟩
        ·rw[uP]at q2 q3 hov
         exact⟨hch,_,none,0,[],[],left-1-1,q3 rfl,bT.nil _ _,by rw[hov];exact q2,Nat.zero_le _,by omega,by have:=LM.out;omega,fun h=>by rw[hov]at h;cases h⟩
       ·kernel_rfl
      have e19:=ay hop;have n19:=hop;clear hop;have Xf:=hid (Lm (neg:=neg) (v:=f.val) n15 n16 n17 n11 n12 n18 n19);clear n15 n16 n17 n11 n12 n18 n19 h4 h13 Qy;go_wp2_with fail
      refine aP lH.out ?_ ?_
      ·exact⟨EK.out,f.val,none,0,[],[],left-1,EP.out,bT.nil _ _,by rw[Xf.out.2,rO,Eb.out];exact vY.out,Nat.zero_le _,by omega,by have:=LM.out;omega,fun _=>⟨Xf.out.1.symm,Xf.out.2.symm,by rw[Xf.out.2];simp[sizes],by have:=LM.out;omega⟩⟩
      ·kernel_rfl
      -->>
     ·rintro us4 W27 hI
      apply qcU;simp only[jH,List.range',List.range'_succ,Act.put,List.setIfInBounds_toArray,List.set_cons_zero,List.set_cons_succ];clear qcU hK17 K27 K17 x0 x1 x2 x3 x4 xl y2 c0 c1 c2 c3 c4 hl16;obtain⟨l1,l2,c0,c1,c2,c3,c4,l3⟩:=HH.out.keep ((JU.out.trans hI.dX).keeps fun k _ hk hv=>HD.out k hk hv);have hal:=l3.len.1;have HI:=hid hI
      have HLEN:=hid (show f.args.length<=manyN from by
       have h0:=(jI hs).2.2.1
       have h1:(aJ f.op).most<=manyN:=by
        have:=(jI hs).1
        rcases qM this with e|e|e|e|e|e|e|e|e|e|e|e|e|e|e|e|e|e|e <;> rw[e] <;> decide
       omega)
      clear hI l3;go_wp2_with fail
      go_loopw [140] (fun q wr=>∃i:Nat,i<=f.args.length/\q = .int .i64 (i:Int)/\Sl bb ob w1 (cZ neg f.op) f.name (ng neg f.op f.val) left d (oV neg f.op++(Hf (qX neg f.op) (pW neg f.op) f.args).take i) (1+i) wr) (fun q _=>f.args.length-(intOf q).toNat)
      case atStart=>exact⟨0,Nat.zero_le _,rfl,by simpa using HI.out⟩
      case round =>
       obtain⟨i,hi,rfl,hI⟩:=hrel;obtain⟨hic,v',A2,c2',gs,sl,left',ho,hr,hb,hgl,hll,hlm,hov⟩:=hI;have ZE:=hid hic;have HO:=hid ho;have HR:=hid hr;have dG:=hid hb;have SH:=hid hov;have HHR:=hid (HH.out.keep ((JU.out.trans hic).keeps fun k _ hk hv=>HD.out k hk hv));clear hic ho hr hb hov c0 c1 c2 c3 c4 l1 l2
       by_cases hlt:i<f.args.length
       ·have hii:(i:Int)<f.args.length:=by omega
        obtain⟨tn,htn⟩:∃tn,tn=(if i=0 then qX neg f.op else pW neg f.op):=⟨_,rfl⟩;have HTN:=hid htn;have qdQ:=hid HHR.out.args;obtain⟨l1,l2,c0,c1,c2,c3,c4,l3⟩:=HHR.out;clear l3 htn;go_upto_region 30 with(fail)
        rename_i K31 qcV
        refine jY K31 (11 :: List.range' 143 11) (fun us W'=>us 11 = .bool tn/\W'=wr) ?_ ?_
        rotate_left
        ·intro gX
         have lH:=hid gX;clear gX qcV
         by_cases h7:f.op=7
         ·have e7:(f.op==7)=true:=by rw[h7];rfl
          by_cases hi0:i=0
          ·subst hi0
           have HTV:=hid (show tn = !neg by rw[HTN.out,if_pos rfl,h7];cases neg <;> rfl);clear h7;go_wp2_with fail
           refine aP lH.out ⟨?_,rfl⟩ ?_
           ·rw[HTV.out];cases neg <;> rfl
           ·kernel_rfl
          ·have hi0':((i:Int)==0)=false:=by rw[beq_eq_false_iff_ne];omega
           have HTV:=hid (show tn=neg by rw[HTN.out,if_neg hi0];unfold pW;rw[if_neg h4]);clear h7 hi0;go_wp2_with fail
           refine aP lH.out ⟨?_,rfl⟩ ?_
           ·rw[HTV.out];cases neg <;> rfl
           ·kernel_rfl
         ·have e7:=ay h7
          have HTV:=hid (show tn=neg by
           rw[HTN.out];have h0:qX neg f.op=neg:=by unfold qX;rw[if_neg (by omega)]
           have h1:pW neg f.op=neg:=by unfold pW;rw[if_neg h4]
           rw[h0,h1];split <;> rfl)
          clear h7;go_wp2_with fail
          refine aP lH.out ⟨?_,rfl⟩ ?_
          ·rw[HTV.out];cases neg <;> rfl
          ·kernel_rfl
        ·rintro us5 W31 ⟨hu11,hw31⟩
         subst hw31;apply qcV;simp only[jH,List.range',List.range'_succ,Act.put,List.setIfInBounds_toArray,List.set_cons_zero,List.set_cons_succ];rw[hu11];clear qcV K31;obtain⟨b1,o1,A',c1',g,rfl,HX,hg⟩:=qdQ.out.get hlt
         have hgm:g∈f.args:=by
          have:=HX.out;rw[<-this];simp[List.getD,hlt]
         have HLF2:=hid (show 1<=d by have:=LM.out;omega);have hwd:=IntWalk.i64_in (d-1) (by omega);obtain⟨kg,hkg⟩:∃kg,kg=kf tn g:=⟨_,rfl⟩;obtain⟨ov,hov⟩:∃ov,ov=Gi (oV neg f.op++(Hf (qX neg f.op) (pW neg f.op) f.args).take i) left d:=⟨_,rfl⟩;rw[<-hov]at dG SH;have HOVE:=hid hov
         have aO:Hid (∀W',Below W31.heap.size W31 W'->Calls Tryz.prog 73 #[.pointer (some ⟨bb,0,none⟩),.pointer (some ⟨b1,o1+i*5,none⟩),.bool tn,.int .i64 (d-1)] W' fun e w5 =>
           ∃g' A5 c5 rF,e = .returned (.agg #[.int .i64 g'.op,.string g'.name,.int .i64 g'.val,.int .i64 g'.bound,.slice A5 g'.args.length c5])/\aH (fun x=>x=bb) W' w5/\aH (fun x=>x=bb) w1 w5/\OB w5 ob (cZ neg f.op) f.name v' 0 A2 gs.length c2'/\bT w5 (ob+1) A2 c2' gs sl /\
            BB w5 bb rF (ov || !bM kg left' (d-1))/\bV w5 (fun x=>Nw (ob+1) w5 x/\(Value.slice A2 gs.length c2').ownBlock≠some x) g'.args A5 c5/\rF<=left' /\ -1<=rF/\((ov || !bM kg left' (d-1))=false->g'=kg/\rF=left'-kg.size/\0<=rF)/\w5.cell? ⟨b,o+4,none⟩=some (.slice (some ⟨b1,o1,none⟩) f.args.length c)):=hid fun W' hb'=>by
          have Yd:=HO.out.below hb';have X8:bT W' (ob+1) A2 c2' gs sl:=HR.out.dX (aH.aS (V:=fun _=>False) hb') fun _ h=>h.elim;have hbb1:=dG.out.below hb';refine(HIH.out g hgm D b1 (o1+i*5) A' c1' tn ov left' (d-1) W' (hg.keep (Keeps.mono (aH.keeps (aH.aS (V:=fun _=>False) hb') fun _ _ (_:True) h=>h) fun _ _=>trivial)) HD.out hbb1 (fun h=>(SH.out h).2.2.2) hlm (by omega) (by have:=HLF2.out;omega) (by omega)).mono ?_;rintro e w5 ⟨hc5,v5,g',l5,rfl,⟨A5,c5,rfl,UL⟩,hb5,hl5,hm5,gq⟩;rw[<-hkg]at hb5 gq;refine⟨g',A5,c5,l5,rfl,hc5,(ZE.out.trans (aH.aS hb')).trans hc5,Yd.dX hc5 (by omega),X8.dX hc5 fun x hx=>by have:=Bz.out;have:=HS1.out;omega,hb5,?_,hl5,hm5,gq,?_⟩
          ·have hob2:=lt_of_block Yd
           refine UL.mono fun x hx _=>⟨⟨by have:=hx.1;omega,hx.2⟩,fun e=>?_⟩;have:=(X8.ge e).2;have:=hx.1;omega
          ·have:=(HHR.out.keep (aH.keeps ((aH.aS (V:=fun x=>x=bb) hb').trans hc5) fun k _ hk hv=>HD.out k hk hv)).c4
           exact this
         obtain⟨i0,hti,hz0,hz1,hz2⟩:=info_parts iH;have qau:bb<ob+1:=by have:=Bz.out;have:=HS1.out;omega
         obtain⟨x0,x1,x2,x3,x4,xl⟩:=HO.out.cells;have HKG:=hid hkg;have HXG:=hid HX.out;clear HX hgm hkg hov c0 c1 c2 c3 x0 x1 x2 x3;have hgl1:(gs.length:Int)<(gs.length:Int)+1:=by omega
         go_upto_region 31 with(fail)
         rename_i K32 z1 z2 Q32 qcW
         refine jY K32 (List.range' 154 18) (fun us W'=>Sl bb ob w1 (cZ neg f.op) f.name (ng neg f.op f.val) left d (oV neg f.op++(Hf (qX neg f.op) (pW neg f.op) f.args).take (i+1)) (1+(i+1)) W') ?_ ?_
         ·intro us6 W32 hI32
          apply qcW;simp only[jH,List.range',List.range'_succ,Act.put,List.setIfInBounds_toArray,List.set_cons_zero,List.set_cons_succ];clear qcW K32 c4 x4 l1 l2 xl;go_wp2_with fail
          go_roundw
          case rel=>exact⟨i+1,by omega,by go_num,hI32⟩
          case measure=>simp[intOf];omega
         intro gX;have lH:=hid gX
         have qeq:=hid (show oV neg f.op++(Hf (qX neg f.op) (pW neg f.op) f.args).take (i+1)=(oV neg f.op++(Hf (qX neg f.op) (pW neg f.op) f.args).take i) ++ [kg]by
          rw[Yl _ _ _ hlt,List.append_assoc,HKG.out,HTN.out,HXG.out])
         clear gX qcW
         go_region_law (first|(refine dA _ (by rfl) _ _ 22 (by rfl) (ob+1) 24 i0 _ 5 64 Tryz.underlying22 hti hz0 hz1 hz2 rfl (by omega) (.slice A2 gs.length c2') gs.length (bP gs sl) (by rfl) (by first|exact DJ.own|exact(DJ.alloc _).own|exact(DJ.alloc _).drew.own) _ (some ⟨w5.heap.size,0,none⟩) 1 1 pR (by rfl) (by first|exact Rd.fresh (D:=aZ) rfl trivial rfl (by omega)|exact Rd.BU (D:=aZ) rfl trivial rfl (by omega)) (by simp[pR,Value.oneCell']) (by have:=HLEN.out;simp only[manyN]at this;omega) (dI (by have:=HLEN.out;simp only[manyN]at this;omega)) (by have:=lt_of_block gq;simp;omega) ?_;intro A6 c6 w6 hown X9 hblk;obtain⟨g6,rfl,hge6,hr6,Wh,hb6,hf6,hc6⟩:=IC (w5:=w5) (by first|exact aH.refl _ _|exact(aH.refl _ _).alloc _|exact((aH.refl _ _).alloc _).drew) DJ rfl rfl rfl hown X9 hblk gq (Nat.lt_succ_self _) hb5 qau hf5;obtain⟨r0,r1,r2,r3,r4,t0,t1,t2,t3,t4,rl⟩:=lC hown (j:=gs.length*5) (by rw[List.drop_left' (iO DJ.len)];rfl);have q54:=aj Wh (i:=4) rfl;have p54:=Wh.free 4;have l54:=lt_of_block Wh;have hgo:¬ob=g6:=(by omega);have hgo':¬g6=ob:=fun e=>hgo e.symm)|(refine dA _ (by rfl) _ _ 22 (by rfl) (ob+1) 24 i0 _ 5 64 Tryz.underlying22 hti hz0 hz1 hz2 rfl (by omega) (.slice A2 gs.length c2') gs.length (bP gs sl) (by rfl) (by first|exact DJ.own|exact(DJ.alloc _).own|exact(DJ.alloc _).drew.own) _ (some ⟨W31.heap.size,0,none⟩) 1 1 pR (by rfl) (by first|exact(Rd.fresh (w:=W31) (D:=fun k=>k=W31.heap.size) rfl rfl rfl (by omega)).keep (hc5.keeps fun k _ hk hv=>by omega)|exact(Rd.BU (w:=W31) (D:=fun k=>k=W31.heap.size) rfl rfl rfl (by omega)).keep (hc5.keeps fun k _ hk hv=>by omega)) (by simp[pR,Value.oneCell']) (by have:=HLEN.out;simp only[manyN]at this;omega) (dI (by have:=HLEN.out;simp only[manyN]at this;omega)) (by have:=lt_of_block gq;simp;omega) ?_;intro A6 c6 w6 hown X9 hblk;obtain⟨g6,rfl,hge6,hr6,Wh,hb6,hf6,hc6⟩:=IC (w5:=w5) (by first|exact aH.refl _ _|exact(aH.refl _ _).alloc _|exact((aH.refl _ _).alloc _).drew) DJ rfl rfl rfl hown X9 hblk gq (Nat.lt_succ_self _) hb5 qau hf5;obtain⟨r0,r1,r2,r3,r4,t0,t1,t2,t3,t4,rl⟩:=lC hown (j:=gs.length*5) (by rw[List.drop_left' (iO DJ.len)];rfl);have q54:=aj Wh (i:=4) rfl;have p54:=Wh.free 4;have l54:=lt_of_block Wh;have hgo:¬ob=g6:=(by omega);have hgo':¬g6=ob:=fun e=>hgo e.symm)|(go_simp;go_at_call 73;(with_reducible refine(aO.out _ (by first|exact Below.refl _ _|exact(Below.refl _ _).drew|exact(Below.refl _ _).alloc (Nat.le_refl _) _|exact((Below.refl _ _).alloc (Nat.le_refl _) _).drew|go_grown)).mono ?_);rintro e w5 ⟨g',A5,c5,rF,rfl,hc5,hcw5,gq,DJ,hb5,hf5,hl5,hm5,qaB,hc45⟩;have q4:=aj gq (i:=4) rfl;have ql:=lt_of_block gq))
         all_goals
          show K32 _ _;refine yM fun WF hWF=>?_;have Ye:bb≠ob:=fun h=>Ah h.symm;have Yd:ob<ob+1:=by omega
          have hwo:w1.heap.size<=ob:=by have:=Bz.out;omega
          have qff:aH (fun x=>x=bb) w1 w6:=hcw5.trans' hc6 fun x hx h=>by have:=Bz.out;omega
          have happ:Et bb ob (ob+1) (cZ neg f.op) f.name v' 0 rF (ov || !bM kg left' (d-1)) (gs ++ [g']) w1 WF:=by
           rw[hWF]
           first
            | with_reducible exact Xq rfl rfl Ye Yd qau hwo qff hb6 Wh hr6 hf6
            | with_reducible exact Xr rfl rfl Ye Yd qau hwo qff hb6 Wh hr6 hf6
          clear hWF;refine aP lH.out ?_ ?_
          ·rw[qeq.out]
           exact UE HOVE.out SH.out qaB hgl hll hl5 hm5 happ
          ·kernel_rfl
       ·have hii:¬(i:Int)<f.args.length:=by omega
        obtain⟨x0,x1,x2,x3,x4,xl⟩:=HO.out.cells;obtain⟨r0,r1,r2,r3,r4,rl⟩:=(HR1.out.dX ZE.out (by omega)).cells;have p0:=(HR1.out.dX ZE.out (by omega)).free 0;have p1:=(HR1.out.dX ZE.out (by omega)).free 1;have p2:=(HR1.out.dX ZE.out (by omega)).free 2;have p3:=(HR1.out.dX ZE.out (by omega)).free 3;have p4:=(HR1.out.dX ZE.out (by omega)).free 4;go_wp2_with fail
        refine aK fun WE fJ=>?_;have hro:=HR1.out.dX ZE.out (by omega)
        have hOW:OB WE w.heap.size (cZ neg f.op) f.name v' 0 A2 gs.length c2':=by
         unfold OB;rw[fJ,aB (aB (aB (aB (aB hro _) _) _) _)];rfl
        have hcE:aH (fun x=>x=w.heap.size) wr WE:=by
         rw[fJ];exact(((((aH.refl (fun x=>x=w.heap.size) wr).set ⟨w.heap.size,0,none⟩ _ fun _=>rfl).set ⟨w.heap.size,1,none⟩ _ fun _=>rfl).set ⟨w.heap.size,2,none⟩ _ fun _=>rfl).set ⟨w.heap.size,3,none⟩ _ fun _=>rfl).set ⟨w.heap.size,4,none⟩ _ fun _=>rfl
        have hie:(Hf (qX neg f.op) (pW neg f.op) f.args).take i=Hf (qX neg f.op) (pW neg f.op) f.args:=List.take_of_length_le (by rw[KA];omega);obtain⟨y0,y1,y2,y3,y4,yl⟩:=hOW.cells;have hfin:=XQ (bb:=bb) (ob:=ob) (rb:=w.heap.size) (k:=gs.length) hs h4 h13 Qy h3 (by rw[hie]) JU.out ZE.out (Nat.le_refl _) (by have:=Bz.out;have:=HS1.out;omega) hbl HR.out dG.out rfl (by have:=HLEN.out;simp only[manyN]at this;omega) hll hlm SH.out hcE;clear fJ hro hcE;exact bodyPost_ret (v := .agg #[.int .i64 (cZ neg f.op),.string f.name,.int .i64 v',.int .i64 0,.slice A2 gs.length c2']) (by simp[results,Tryz.results73,go_sem,y0,y1,y2,y3,y4]) rfl hfin
end Go.Proofs.YtdpbgcmfeajigaaGreatDoor
