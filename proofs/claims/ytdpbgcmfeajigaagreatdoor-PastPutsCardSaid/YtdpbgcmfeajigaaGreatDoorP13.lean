/-
  Walk of the builder's form at a node that has its own operator.
-/
import Derived.Test.YtdpbgcmfeajigaaGreatDoorP12
set_option linter.unusedSimpArgs false
set_option linter.unusedVariables false
set_option maxHeartbeats 8000000
set_option maxRecDepth 100000
namespace Go.Proofs.YtdpbgcmfeajigaaGreatDoor
open Go.RowKit Go.Shelf
attribute [local go_sem] ak jG ni jF
theorem OB.cells {w:World}{ob:Nat}{o:Int}{n:ByteArray}{v b:Int}{A:Option Addr}{k c:Nat}(h:OB w ob o n v b A k c):w.cell? ⟨ob,0,none⟩=some (.int .i64 o)/\w.cell? ⟨ob,1,none⟩=some (.string n)/\w.cell? ⟨ob,2,none⟩=some (.int .i64 v)/\w.cell? ⟨ob,3,none⟩=some (.int .i64 b)/\w.cell? ⟨ob,4,none⟩=some (.slice A k c)/\ob<w.heap.size :=
 ⟨aj h rfl,aj h rfl,aj h rfl,aj h rfl,aj h rfl,lt_of_block h⟩
theorem OB.free {w:World}{ob:Nat}{o:Int}{n:ByteArray}{v b:Int}{A:Option Addr}{k c:Nat}(h:OB w ob o n v b A k c)(i:Nat):w.frozen? ⟨ob,i,none⟩=false:=aA h
theorem dA.zero {bb rb:Nat}{k:Fm}{left left':Int}{w w':World}(hc:aF (fun x=>x=bb) w w')(hb:BB w' bb left' true)(hl:left'<=left)(hm : -1<=left') :
  dA bb k left true w (.returned (.agg #[.int .i64 0,.string ⟨#[]⟩,.int .i64 0,.int .i64 0,.slice none 0 0])) w' :=
 ⟨hc,_,dW,left',rfl,⟨none,0,rfl,bM.nil _ _ _ (by omega)⟩,hb,hl,hm,fun h=>by cases h⟩
theorem Nz (bb:Nat)(f:Fm)(hs:bQ f=true)(ih:∀g,g∈f.args->zn bb g)(h4:f.op≠4)(h13:f.op≠13)(QX:f.op≠14)
  {D:Dom} {b o:Nat} {A:Option Addr} {c:Nat} {neg:Bool} {left d:Int} {w:World} (h3:f.op=3->neg=false)
  (h:dU w D b o f A c) (hD:∀k,D k->k≠bb) (hB:BB w bb left false) (hl0:0<=left) (hl2:left<=1000000) (hd1 : -1000000<=d) (hd2:d<=1000000) :
  Calls Tryz.prog 73 #[.pointer (some ⟨bb,0,none⟩),.pointer (some ⟨b,o,none⟩),.bool neg,.int .i64 d] w (dA bb (kf neg f) left (!bH (kf neg f) left d) w):=by
 have HH:=hid h;have HD:=hid hD;have HB:=hid hB;have HIH:=hid ih;have hbl:=lt_of_block hB;have hlt:=h.lt;have hbne:=hD b h.dom;clear hB h ih;have e4:=au h4;have e13:=au h13;have e14:=au QX
 go_enter Tryz.func73,Tryz.ntmps73
 go_upto_region 1 with(fail)
 refine aH fun W hW=>?_;have HW:=hid (show aF (fun x=>x=bb) w W by rw[hW];exact(aF.refl _ w).alloc _);have dY:=hid (show OB W w.heap.size 0 ⟨#[]⟩ 0 0 none 0 0 by rw[hW];exact at_new _ _ _ rfl);have aY:=hid (HB.out.below (show Below w.heap.size w W by rw[hW];go_grown));have HT:=hid (take_any bb left d false W aY.out (by omega) (by omega));have jQ:=hid (show W.heap.size=w.heap.size+1 by rw[hW];simp);clear hW
 rename_i K11 qdI K1 hK1
 refine jP K11 (List.range' 12 76) (fun _ W'=>W'=W) ?_ ?_
 rotate_left
 ·--<<
  intro gQ;clear qdI;have kQ:=hid gQ;have b1:=aj aY.out (i:=1) rfl;obtain⟨_,hl1,c0,c1,c2,c3,c4,_⟩:=HH.out.keep (HW.out.keeps fun k _ hk hv=>HD.out k hk hv);clear gQ
  by_cases hq3:f.op=3
  ·have hn:=h3 hq3
   subst hn;have e3:(f.op==3)=true:=by rw[hq3];rfl
   clear hq3 h3;go_wp2_with fail
   refine aP kQ.out rfl ?_
   kernel_rfl
  ·have e3:=au hq3
   clear hq3 h3;go_wp2_with fail
   refine aP kQ.out rfl ?_
   kernel_rfl
  -->>
 ·intro us W1 hW1
  obtain rfl:=hW1;apply qdI;clear hK1 qdI K1 K11;simp only[jE,List.range',List.range'_succ,Act.put,List.setIfInBounds_toArray,List.set_cons_zero,List.set_cons_succ]
  cases htk:eu left false d <;> rw[htk]at HT <;> (have DY:=hid htk) <;> clear htk
  rotate_left
  ·obtain⟨rb,hrb⟩:∃rb,rb=w.heap.size:=⟨_,rfl⟩
   rw[<-hrb]at dY⊢;have nK:¬rb=bb:=by omega
   have rW:=hid hrb;clear hrb;go_wp2_with (first|(go_at_call 110;refine HT.out.mono ?_;rintro e w1 ⟨rfl,hc1,hb1⟩;obtain⟨r0,r1,r2,r3,r4,rl⟩:=(dY.out.dX hc1 nK).cells;have p0:=(dY.out.dX hc1 nK).free 0;have p1:=(dY.out.dX hc1 nK).free 1;have p2:=(dY.out.dX hc1 nK).free 2;have p3:=(dY.out.dX hc1 nK).free 3;have p4:=(dY.out.dX hc1 nK).free 4))
   refine aJ fun WE fB=>?_;have fM:=dY.out.dX hc1 nK;have iY:OB WE rb 0 ⟨#[]⟩ 0 0 none 0 0:=by rw[fB];exact bC fM
   have hcE:aF (fun x=>x=rb) w1 WE:=by rw[fB];exact aN _ _ _ _ _ _ _
   obtain⟨y0,y1,y2,y3,y4,yl⟩:=iY.cells;have hov:(!bH (kf neg f) left d)=true:=by rw[Ua hs h4 h13 QX h3,Kr];exact Zk DY.out
   clear fB r0 r1 r2 r3 r4 p0 p1 p2 p3 p4;rw[hov]
   exact bodyPost_ret (v := .agg #[.int .i64 0,.string ⟨#[]⟩,.int .i64 0,.int .i64 0,.slice none 0 0]) (by simp[results,Tryz.results73,go_sem,y0,y1,y2,y3,y4]) rfl
    (dA.zero (rb:=0) ((HW.out.trans hc1).trans' hcE fun x hx h=>by have:=rW.out;omega) (BB.dX hb1 hcE (fun h=>nK h.symm)) (by omega) (by omega))
  ·go_upto_region 13 with(first|(go_at_call 110;refine HT.out.mono ?_;rintro e w1 ⟨rfl,hc1,hb1⟩))
   rename_i K14 qdJ
   have Il:=hid (HW.out.trans hc1);have HB1:=hid hb1;have HR1:=hid (dY.out.dX hc1 (by omega));have HS1:=hid (show w.heap.size+1<=w1.heap.size by have:=hc1.size;have:=jQ.out;omega);obtain⟨_,hl1,c0,c1,c2,c3,c4,_⟩:=HH.out.keep (Il.out.keeps fun k _ hk hv=>HD.out k hk hv);clear hc1 hb1;obtain⟨ob,hob⟩:∃ob,ob=w1.heap.size:=⟨_,rfl⟩;have Qa:=hid hob;refine jP K14 (9 :: List.range' 93 14) (fun us W'=>us 9 = .pointer (some ⟨ob,0,none⟩)/\aF (fun x=>x=bb) w1 W'/\OB W' ob (Fv f.op) f.name f.val 0 none 0 0/\ob<W'.heap.size/\BB W' bb (left-1) false) ?_ ?_
   rotate_left
   ·--<<
    intro gQ;have kQ:=hid gQ;clear gQ qdJ hob
    go_region_held3 (fun W':World=>W'.cell? ⟨b,o,none⟩=some (.int .i64 f.op)/\W'.cell? ⟨b,o+1,none⟩=some (.string f.name)/\W'.cell? ⟨b,o+2,none⟩=some (.int .i64 f.val))
     (first|(go_keep;done))
     ((go_at_call 112;with_reducible refine(NC f.op _).mono ?_;rintro e w9 ⟨rfl,NK⟩;rw[NK];clear NK))
    all_goals
     show K14 _ _;refine yw fun W13 qba=>?_;refine aP kQ.out ⟨by rw[Qa.out];rfl,?_,?_,?_,?_⟩ ?_
     ·rw[qba];exact((aF.refl _ w1).alloc _).drew
     ·rw[qba,Qa.out];exact at_new _ _ _ rfl
     ·rw[qba,Qa.out];simp
     ·rw[qba];exact(aQ _ _ _ (lt_of_block HB1.out)).trans HB1.out
     ·kernel_rfl
    -->>
   ·rintro us2 W13 ⟨hu9,hc13,qgf,qga,Yw⟩
    apply qdJ;simp only[jE,List.range',List.range'_succ,Act.put,List.setIfInBounds_toArray,List.set_cons_zero,List.set_cons_succ];rw[hu9];clear qdJ c0 c1 c2 c3 c4 hl1;have zQ:¬ob=bb:=by have:=HS1.out;omega
    have AZ:=hid hob;clear hob;have qcD:=hid hc13;have Xr:=hid qgf;have Xd:=hid Yw;obtain⟨x0,x1,x2,x3,x4,xl⟩:=Xr.out.cells;have y0:=Xr.out.free 0;have hob0:=qga;clear hc13 qgf Yw;go_upto_region 14 with(fail)
    rename_i K16 qdK K15 Ku
    refine jP K16 (List.range' 107 5) (fun us W'=>aF (fun x=>x=bb) w1 W'/\OB W' ob (cu neg f.op) f.name f.val 0 none 0 0/\BB W' bb (left-1) false) ?_ ?_
    rotate_left
    ·--<<
     intro gQ;have kQ:=hid gQ;clear gQ qdK;cases neg
     ·go_wp2_with fail
      refine aP kQ.out ⟨qcD.out,Xr.out,Xd.out⟩ ?_
      kernel_rfl
     ·go_wp2_with (first|(go_at_call 113;refine(Nu _ _).mono ?_;rintro e w9 ⟨rfl,NK⟩;rw[NK];clear NK))
      refine aP kQ.out ⟨?_,?_,?_⟩ ?_
      ·exact qcD.out.set ⟨ob,0,none⟩ _ fun h=>by have:=AZ.out;simp only[]at h;omega
      ·unfold OB
       rw[aB Xr.out];rfl
      ·exact BB.dX Xd.out ((aF.refl (fun x=>x=ob) W13).set ⟨ob,0,none⟩ _ fun _=>rfl) (fun h=>zQ h.symm)
      ·kernel_rfl
     -->>
    ·rintro us3 W16 ⟨hc16,qbj,hb16⟩
     apply qdK;simp only[jE,List.range',List.range'_succ,Act.put,List.setIfInBounds_toArray,List.set_cons_zero,List.set_cons_succ];clear qdK Ku K16 K15 x0 x1 x2 x3 x4 xl y0 Xr qcD qga;have Ey:=hid hc16;have EG:=hid qbj;have vT:=hid hb16;obtain⟨x0,x1,x2,x3,x4,xl⟩:=qbj.cells;have y2:=qbj.free 2;obtain⟨_,hl16,c0,c1,c2,c3,c4,_⟩:=HH.out.keep ((Il.out.trans hc16).keeps fun k _ hk hv=>HD.out k hk hv);have Mc:=hid (show 1<=left/\1<=d by have:=DY.out;unfold eu at this;simp at this;omega);have Tt:=hid (show ob+1<=W16.heap.size from xl);clear hc16 qbj hb16;go_upto_region 16 with(fail)
     rename_i K27 qdL K17 hK17
     refine jP K27 (List.range' 112 23) (fun us W'=>S9 bb ob w1 (cu neg f.op) f.name (mQ neg f.op f.val) left d (oM neg f.op) 1 W') ?_ ?_
     rotate_left
     ·--<<
      intro gQ;have kQ:=hid gQ;clear gQ qdL
      by_cases hop:f.op=15
      ·have e15:(f.op==15)=true:=by rw[hop];rfl
       have hvb:0<=f.val/\f.val<=1:=by have:=iM hs;rw[hop]at this;exact⟨this.2.2.2.1,this.2.2.2.2.1⟩
       have hwv:=IntWalk.i64_in (1-f.val) (by omega);have HV:=hid (show mQ neg f.op f.val=(if neg then 1-f.val else f.val)by rw[hop];cases neg <;> rfl);have HL:=hid (show oM neg f.op = []by rw[hop];rfl);have e16:(f.op==16)=false:=by rw[hop];rfl
       have e17:(f.op==17)=false:=by rw[hop];rfl
       have e11:(f.op==11)=false:=by rw[hop];rfl
       have e12:(f.op==12)=false:=by rw[hop];rfl
       have e18:(f.op==18)=false:=by rw[hop];rfl
       have e19:(f.op==19)=false:=by rw[hop];rfl
       clear hop h4 h13 QX;cases neg
       ·go_wp2_with fail
        refine aP kQ.out ?_ ?_
        ·exact⟨Ey.out,f.val,none,0,[],[],left-1,EG.out,bK.nil _ _,by rw[HL.out,rE,DY.out];exact vT.out,Nat.zero_le _,by omega,by omega,fun _=>⟨HV.out.symm,HL.out.symm,by rw[HL.out];simp[sizes],by have:=Mc.out;omega⟩⟩
        ·kernel_rfl
       ·go_wp2_with fail
        refine aP kQ.out ?_ ?_
        ·refine⟨Ey.out.set ⟨ob,2,none⟩ _ fun h=>by have:=AZ.out;simp only[]at h;omega,1-f.val,none,0,[],[],left-1,?_,bK.nil _ _,?_,Nat.zero_le _,by omega,by omega,fun _=>⟨HV.out.symm,HL.out.symm,by rw[HL.out];simp[sizes],by have:=Mc.out;omega⟩⟩
         ·unfold OB
          rw[aB EG.out];rfl
         ·rw[HL.out,rE,DY.out]
          exact BB.dX vT.out ((aF.refl (fun x=>x=ob) W16).set ⟨ob,2,none⟩ _ fun _=>rfl) (fun h=>zQ h.symm)
        ·kernel_rfl
      have e15:=au hop;have n15:=hop;clear hop
      by_cases hop:f.op=16
      ·have e16:(f.op==16)=true:=by rw[hop];rfl
       have hvb:0<=f.val/\f.val<=1:=by have:=iM hs;rw[hop]at this;exact⟨this.2.2.2.1,this.2.2.2.2.1⟩
       have hwv:=IntWalk.i64_in (1-f.val) (by omega);have HV:=hid (show mQ neg f.op f.val=(if neg then 1-f.val else f.val)by rw[hop];cases neg <;> rfl);have HL:=hid (show oM neg f.op = []by rw[hop];rfl);have e15:(f.op==15)=false:=by rw[hop];rfl
       have e17:(f.op==17)=false:=by rw[hop];rfl
       have e11:(f.op==11)=false:=by rw[hop];rfl
       have e12:(f.op==12)=false:=by rw[hop];rfl
       have e18:(f.op==18)=false:=by rw[hop];rfl
       have e19:(f.op==19)=false:=by rw[hop];rfl
       clear hop h4 h13 QX;cases neg
       ·go_wp2_with fail
        refine aP kQ.out ?_ ?_
        ·exact⟨Ey.out,f.val,none,0,[],[],left-1,EG.out,bK.nil _ _,by rw[HL.out,rE,DY.out];exact vT.out,Nat.zero_le _,by omega,by omega,fun _=>⟨HV.out.symm,HL.out.symm,by rw[HL.out];simp[sizes],by have:=Mc.out;omega⟩⟩
        ·kernel_rfl
       ·go_wp2_with fail
        refine aP kQ.out ?_ ?_
        ·refine⟨Ey.out.set ⟨ob,2,none⟩ _ fun h=>by have:=AZ.out;simp only[]at h;omega,1-f.val,none,0,[],[],left-1,?_,bK.nil _ _,?_,Nat.zero_le _,by omega,by omega,fun _=>⟨HV.out.symm,HL.out.symm,by rw[HL.out];simp[sizes],by have:=Mc.out;omega⟩⟩
         ·unfold OB
          rw[aB EG.out];rfl
         ·rw[HL.out,rE,DY.out]
          exact BB.dX vT.out ((aF.refl (fun x=>x=ob) W16).set ⟨ob,2,none⟩ _ fun _=>rfl) (fun h=>zQ h.symm)
        ·kernel_rfl
      have e16:=au hop;have n16:=hop;clear hop
      by_cases hop:f.op=17
      ·have e17:(f.op==17)=true:=by rw[hop];rfl
       have hvb:0<=f.val/\f.val<=1:=by have:=iM hs;rw[hop]at this;exact⟨this.2.2.2.1,this.2.2.2.2.1⟩
       have hwv:=IntWalk.i64_in (1-f.val) (by omega);have HV:=hid (show mQ neg f.op f.val=(if neg then 1-f.val else f.val)by rw[hop];cases neg <;> rfl);have HL:=hid (show oM neg f.op = []by rw[hop];rfl);have e15:(f.op==15)=false:=by rw[hop];rfl
       have e16:(f.op==16)=false:=by rw[hop];rfl
       have e11:(f.op==11)=false:=by rw[hop];rfl
       have e12:(f.op==12)=false:=by rw[hop];rfl
       have e18:(f.op==18)=false:=by rw[hop];rfl
       have e19:(f.op==19)=false:=by rw[hop];rfl
       clear hop h4 h13 QX;cases neg
       ·go_wp2_with fail
        refine aP kQ.out ?_ ?_
        ·exact⟨Ey.out,f.val,none,0,[],[],left-1,EG.out,bK.nil _ _,by rw[HL.out,rE,DY.out];exact vT.out,Nat.zero_le _,by omega,by omega,fun _=>⟨HV.out.symm,HL.out.symm,by rw[HL.out];simp[sizes],by have:=Mc.out;omega⟩⟩
        ·kernel_rfl
       ·go_wp2_with fail
        refine aP kQ.out ?_ ?_
        ·refine⟨Ey.out.set ⟨ob,2,none⟩ _ fun h=>by have:=AZ.out;simp only[]at h;omega,1-f.val,none,0,[],[],left-1,?_,bK.nil _ _,?_,Nat.zero_le _,by omega,by omega,fun _=>⟨HV.out.symm,HL.out.symm,by rw[HL.out];simp[sizes],by have:=Mc.out;omega⟩⟩
         ·unfold OB
          rw[aB EG.out];rfl
         ·rw[HL.out,rE,DY.out]
          exact BB.dX vT.out ((aF.refl (fun x=>x=ob) W16).set ⟨ob,2,none⟩ _ fun _=>rfl) (fun h=>zQ h.symm)
        ·kernel_rfl
      have e17:=au hop;have n17:=hop;clear hop
      by_cases hop:f.op=11
      ·have e11:(f.op==11)=true:=by rw[hop];rfl
       have h1:uF f.op=true:=by rw[hop];rfl
       have HV:=hid (zX (neg:=neg) (v:=f.val) h1 (by rw[hop];rfl));have HL:=hid (xM (neg:=neg) h1);have tZ:=hid (zW bb ob (cu neg f.op) f.name f.val (left-1) d false W16 (fun h=>zQ h.symm) vT.out EG.out (by have:=Mc.out;omega) (by omega) hd1 hd2);clear h1;have e15:(f.op==15)=false:=by rw[hop];rfl
       have e16:(f.op==16)=false:=by rw[hop];rfl
       have e17:(f.op==17)=false:=by rw[hop];rfl
       have e12:(f.op==12)=false:=by rw[hop];rfl
       have e18:(f.op==18)=false:=by rw[hop];rfl
       have e19:(f.op==19)=false:=by rw[hop];rfl
       clear hop h4 h13 QX;go_wp2_with (first|(go_at_call 114;refine tZ.out.mono ?_;rintro e w9 ⟨⟨r9,rfl⟩,hlo⟩))
       refine aP kQ.out ?_ ?_
       ·rw[HL.out]
        obtain⟨q1,q2,q3,q4⟩:=hlo;have hov:F9 [jZ (lH (cu neg f.op)) []] left d=eu (left-1) false (d-1):=by rw[Ah _ rfl,DY.out];rfl
        have hch:aF (fun x=>x=bb) w1 w9:=Ey.out.trans' q1 fun k hk h=>by have:=AZ.out;omega
        cases uD:eu (left-1) false (d-1)
        ·rw[uD]at q2 q4 hov
         obtain⟨A2,c2,q5,q6⟩:=q4 rfl
         have hl2:0<=left-1-1:=by
          unfold eu at uD;simp at uD;omega
         exact⟨hch,_,A2,c2,_,_,left-1-1,q5,q6.base Tt.out,by rw[hov];exact q2,Nat.le_refl _,by omega,by omega,fun _=>⟨HV.out.symm,rfl,by simp[sizes,jZ,Fm.size];omega,hl2⟩⟩
        ·rw[uD]at q2 q3 hov
         exact⟨hch,_,none,0,[],[],left-1-1,q3 rfl,bK.nil _ _,by rw[hov];exact q2,Nat.zero_le _,by omega,by have:=Mc.out;omega,fun h=>by rw[hov]at h;cases h⟩
       ·kernel_rfl
      have e11:=au hop;have n11:=hop;clear hop
      by_cases hop:f.op=12
      ·have e12:(f.op==12)=true:=by rw[hop];rfl
       have h1:uF f.op=true:=by rw[hop];rfl
       have HV:=hid (zX (neg:=neg) (v:=f.val) h1 (by rw[hop];rfl));have HL:=hid (xM (neg:=neg) h1);have tZ:=hid (zW bb ob (cu neg f.op) f.name f.val (left-1) d false W16 (fun h=>zQ h.symm) vT.out EG.out (by have:=Mc.out;omega) (by omega) hd1 hd2);clear h1;have e15:(f.op==15)=false:=by rw[hop];rfl
       have e16:(f.op==16)=false:=by rw[hop];rfl
       have e17:(f.op==17)=false:=by rw[hop];rfl
       have e11:(f.op==11)=false:=by rw[hop];rfl
       have e18:(f.op==18)=false:=by rw[hop];rfl
       have e19:(f.op==19)=false:=by rw[hop];rfl
       clear hop h4 h13 QX;go_wp2_with (first|(go_at_call 114;refine tZ.out.mono ?_;rintro e w9 ⟨⟨r9,rfl⟩,hlo⟩))
       refine aP kQ.out ?_ ?_
       ·rw[HL.out]
        obtain⟨q1,q2,q3,q4⟩:=hlo;have hov:F9 [jZ (lH (cu neg f.op)) []] left d=eu (left-1) false (d-1):=by rw[Ah _ rfl,DY.out];rfl
        have hch:aF (fun x=>x=bb) w1 w9:=Ey.out.trans' q1 fun k hk h=>by have:=AZ.out;omega
        cases uD:eu (left-1) false (d-1)
        ·rw[uD]at q2 q4 hov
         obtain⟨A2,c2,q5,q6⟩:=q4 rfl
         have hl2:0<=left-1-1:=by
          unfold eu at uD;simp at uD;omega
         exact⟨hch,_,A2,c2,_,_,left-1-1,q5,q6.base Tt.out,by rw[hov];exact q2,Nat.le_refl _,by omega,by omega,fun _=>⟨HV.out.symm,rfl,by simp[sizes,jZ,Fm.size];omega,hl2⟩⟩
        ·rw[uD]at q2 q3 hov
         exact⟨hch,_,none,0,[],[],left-1-1,q3 rfl,bK.nil _ _,by rw[hov];exact q2,Nat.zero_le _,by omega,by have:=Mc.out;omega,fun h=>by rw[hov]at h;cases h⟩
       ·kernel_rfl
      have e12:=au hop;have n12:=hop;clear hop
      by_cases hop:f.op=18
      ·have e18:(f.op==18)=true:=by rw[hop];rfl
       have h1:uF f.op=true:=by rw[hop];rfl
       have HV:=hid (zX (neg:=neg) (v:=f.val) h1 (by rw[hop];rfl));have HL:=hid (xM (neg:=neg) h1);have tZ:=hid (zW bb ob (cu neg f.op) f.name f.val (left-1) d false W16 (fun h=>zQ h.symm) vT.out EG.out (by have:=Mc.out;omega) (by omega) hd1 hd2);clear h1;have e15:(f.op==15)=false:=by rw[hop];rfl
       have e16:(f.op==16)=false:=by rw[hop];rfl
       have e17:(f.op==17)=false:=by rw[hop];rfl
       have e11:(f.op==11)=false:=by rw[hop];rfl
       have e12:(f.op==12)=false:=by rw[hop];rfl
       have e19:(f.op==19)=false:=by rw[hop];rfl
       clear hop h4 h13 QX;go_wp2_with (first|(go_at_call 114;refine tZ.out.mono ?_;rintro e w9 ⟨⟨r9,rfl⟩,hlo⟩))
       refine aP kQ.out ?_ ?_
       ·rw[HL.out]
        obtain⟨q1,q2,q3,q4⟩:=hlo;have hov:F9 [jZ (lH (cu neg f.op)) []] left d=eu (left-1) false (d-1):=by rw[Ah _ rfl,DY.out];rfl
        have hch:aF (fun x=>x=bb) w1 w9:=Ey.out.trans' q1 fun k hk h=>by have:=AZ.out;omega
        cases uD:eu (left-1) false (d-1)
        ·rw[uD]at q2 q4 hov
         obtain⟨A2,c2,q5,q6⟩:=q4 rfl
         have hl2:0<=left-1-1:=by
          unfold eu at uD;simp at uD;omega
         exact⟨hch,_,A2,c2,_,_,left-1-1,q5,q6.base Tt.out,by rw[hov];exact q2,Nat.le_refl _,by omega,by omega,fun _=>⟨HV.out.symm,rfl,by simp[sizes,jZ,Fm.size];omega,hl2⟩⟩
        ·rw[uD]at q2 q3 hov
         exact⟨hch,_,none,0,[],[],left-1-1,q3 rfl,bK.nil _ _,by rw[hov];exact q2,Nat.zero_le _,by omega,by have:=Mc.out;omega,fun h=>by rw[hov]at h;cases h⟩
       ·kernel_rfl
      have e18:=au hop;have n18:=hop;clear hop
      by_cases hop:f.op=19
      ·have e19:(f.op==19)=true:=by rw[hop];rfl
       have h1:uF f.op=true:=by rw[hop];rfl
       have HV:=hid (zX (neg:=neg) (v:=f.val) h1 (by rw[hop];rfl));have HL:=hid (xM (neg:=neg) h1);have tZ:=hid (zW bb ob (cu neg f.op) f.name f.val (left-1) d false W16 (fun h=>zQ h.symm) vT.out EG.out (by have:=Mc.out;omega) (by omega) hd1 hd2);clear h1;have e15:(f.op==15)=false:=by rw[hop];rfl
       have e16:(f.op==16)=false:=by rw[hop];rfl
       have e17:(f.op==17)=false:=by rw[hop];rfl
       have e11:(f.op==11)=false:=by rw[hop];rfl
       have e12:(f.op==12)=false:=by rw[hop];rfl
       have e18:(f.op==18)=false:=by rw[hop];rfl
       clear hop h4 h13 QX;go_wp2_with (first|(go_at_call 114;refine tZ.out.mono ?_;rintro e w9 ⟨⟨r9,rfl⟩,hlo⟩))
       refine aP kQ.out ?_ ?_
       ·rw[HL.out]
        obtain⟨q1,q2,q3,q4⟩:=hlo;have hov:F9 [jZ (lH (cu neg f.op)) []] left d=eu (left-1) false (d-1):=by rw[Ah _ rfl,DY.out];rfl
        have hch:aF (fun x=>x=bb) w1 w9:=Ey.out.trans' q1 fun k hk h=>by have:=AZ.out;omega
        cases uD:eu (left-1) false (d-1)
        ·rw[uD]at q2 q4 hov
         obtain⟨A2,c2,q5,q6⟩:=q4 rfl
         have hl2:0<=left-1-1:=by
          unfold eu at uD;simp at uD;omega
         exact⟨hch,_,A2,c2,_,_,left-1-1,q5,q6.base Tt.out,by rw[hov];exact q2,Nat.le_refl _,by omega,by omega,fun _=>⟨HV.out.symm,rfl,by simp[sizes,jZ,Fm.size];omega,hl2⟩⟩
        ·rw[uD]at q2 q3 hov
         exact⟨hch,_,none,0,[],[],left-1-1,q3 rfl,bK.nil _ _,by rw[hov];exact q2,Nat.zero_le _,by omega,by have:=Mc.out;omega,fun h=>by rw[hov]at h;cases h⟩
       ·kernel_rfl
      have e19:=au hop;have n19:=hop;clear hop;have XF:=hid (LC (neg:=neg) (v:=f.val) n15 n16 n17 n11 n12 n18 n19);clear n15 n16 n17 n11 n12 n18 n19 h4 h13 QX;go_wp2_with fail
      refine aP kQ.out ?_ ?_
      ·exact⟨Ey.out,f.val,none,0,[],[],left-1,EG.out,bK.nil _ _,by rw[XF.out.2,rE,DY.out];exact vT.out,Nat.zero_le _,by omega,by have:=Mc.out;omega,fun _=>⟨XF.out.1.symm,XF.out.2.symm,by rw[XF.out.2];simp[sizes],by have:=Mc.out;omega⟩⟩
      ·kernel_rfl
      -->>
     ·rintro us4 W27 hI
      apply qdL;simp only[jE,List.range',List.range'_succ,Act.put,List.setIfInBounds_toArray,List.set_cons_zero,List.set_cons_succ];clear qdL hK17 K27 K17 x0 x1 x2 x3 x4 xl y2 c0 c1 c2 c3 c4 hl16;obtain⟨l1,l2,c0,c1,c2,c3,c4,l3⟩:=HH.out.keep ((Il.out.trans hI.dX).keeps fun k _ hk hv=>HD.out k hk hv);have hal:=l3.len.1;have HI:=hid hI
      have HLEN:=hid (show f.args.length<=manyN from by
       have h0:=(iM hs).2.2.1
       have h1:(aI f.op).most<=manyN:=by
        have:=(iM hs).1
        rcases qH this with e|e|e|e|e|e|e|e|e|e|e|e|e|e|e|e|e|e|e <;> rw[e] <;> decide
       omega)
      clear hI l3;go_wp2_with fail
      go_loopw [140] (fun q wr=>∃i:Nat,i<=f.args.length/\q = .int .i64 (i:Int)/\S9 bb ob w1 (cu neg f.op) f.name (mQ neg f.op f.val) left d (oM neg f.op++(Hq (qQ neg f.op) (pG neg f.op) f.args).take i) (1+i) wr) (fun q _=>f.args.length-(intOf q).toNat)
      case atStart=>exact⟨0,Nat.zero_le _,rfl,by simpa using HI.out⟩
      case round =>
       obtain⟨i,hi,rfl,hI⟩:=hrel;obtain⟨hic,v',A2,c2',gs,sl,left',ho,hr,hb,hgl,hll,hlm,hov⟩:=hI;have HIC:=hid hic;have HO:=hid ho;have HR:=hid hr;have dJ:=hid hb;have Ej:=hid hov;have HHR:=hid (HH.out.keep ((Il.out.trans hic).keeps fun k _ hk hv=>HD.out k hk hv));clear hic ho hr hb hov c0 c1 c2 c3 c4 l1 l2
       by_cases hlt:i<f.args.length
       ·have hii:(i:Int)<f.args.length:=by omega
        obtain⟨tn,htn⟩:∃tn,tn=(if i=0 then qQ neg f.op else pG neg f.op):=⟨_,rfl⟩;have HTN:=hid htn;have qez:=hid HHR.out.args;obtain⟨l1,l2,c0,c1,c2,c3,c4,l3⟩:=HHR.out;clear l3 htn;go_upto_region 30 with(fail)
        rename_i K31 qdM
        refine jP K31 (11 :: List.range' 143 11) (fun us W'=>us 11 = .bool tn/\W'=wr) ?_ ?_
        rotate_left
        ·intro gQ
         have kQ:=hid gQ;clear gQ qdM
         by_cases h7:f.op=7
         ·have e7:(f.op==7)=true:=by rw[h7];rfl
          by_cases hi0:i=0
          ·subst hi0
           have HTV:=hid (show tn = !neg by rw[HTN.out,if_pos rfl,h7];cases neg <;> rfl);clear h7;go_wp2_with fail
           refine aP kQ.out ⟨?_,rfl⟩ ?_
           ·rw[HTV.out];cases neg <;> rfl
           ·kernel_rfl
          ·have hi0':((i:Int)==0)=false:=by rw[beq_eq_false_iff_ne];omega
           have HTV:=hid (show tn=neg by rw[HTN.out,if_neg hi0];unfold pG;rw[if_neg h4]);clear h7 hi0;go_wp2_with fail
           refine aP kQ.out ⟨?_,rfl⟩ ?_
           ·rw[HTV.out];cases neg <;> rfl
           ·kernel_rfl
         ·have e7:=au h7
          have HTV:=hid (show tn=neg by
           rw[HTN.out];have h0:qQ neg f.op=neg:=by unfold qQ;rw[if_neg (by omega)]
           have h1:pG neg f.op=neg:=by unfold pG;rw[if_neg h4]
           rw[h0,h1];split <;> rfl)
          clear h7;go_wp2_with fail
          refine aP kQ.out ⟨?_,rfl⟩ ?_
          ·rw[HTV.out];cases neg <;> rfl
          ·kernel_rfl
        ·rintro us5 W31 ⟨hu11,hw31⟩
         subst hw31;apply qdM;simp only[jE,List.range',List.range'_succ,Act.put,List.setIfInBounds_toArray,List.set_cons_zero,List.set_cons_succ];rw[hu11];clear qdM K31;obtain⟨b1,o1,A',c1',g,rfl,HX,hg⟩:=qez.out.get hlt
         have hgm:g∈f.args:=by
          have:=HX.out;rw[<-this];simp[List.getD,hlt]
         have HLF2:=hid (show 1<=d by have:=Mc.out;omega);have hwd:=IntWalk.i64_in (d-1) (by omega);obtain⟨kg,hkg⟩:∃kg,kg=kf tn g:=⟨_,rfl⟩;obtain⟨ov,hov⟩:∃ov,ov=F9 (oM neg f.op++(Hq (qQ neg f.op) (pG neg f.op) f.args).take i) left d:=⟨_,rfl⟩;rw[<-hov]at dJ Ej;have HOVE:=hid hov
         have aO:Hid (∀W',Below W31.heap.size W31 W'->Calls Tryz.prog 73 #[.pointer (some ⟨bb,0,none⟩),.pointer (some ⟨b1,o1+i*5,none⟩),.bool tn,.int .i64 (d-1)] W' fun e w5 =>
           ∃g' A5 c5 qY,e = .returned (.agg #[.int .i64 g'.op,.string g'.name,.int .i64 g'.val,.int .i64 g'.bound,.slice A5 g'.args.length c5])/\aF (fun x=>x=bb) W' w5/\aF (fun x=>x=bb) w1 w5/\OB w5 ob (cu neg f.op) f.name v' 0 A2 gs.length c2'/\bK w5 (ob+1) A2 c2' gs sl /\
            BB w5 bb qY (ov || !bH kg left' (d-1))/\bM w5 (fun x=>Nw (ob+1) w5 x/\(Value.slice A2 gs.length c2').ownBlock≠some x) g'.args A5 c5/\qY<=left' /\ -1<=qY/\((ov || !bH kg left' (d-1))=false->g'=kg/\qY=left'-kg.size/\0<=qY)/\w5.cell? ⟨b,o+4,none⟩=some (.slice (some ⟨b1,o1,none⟩) f.args.length c)):=hid fun W' hb'=>by
          have YE:=HO.out.below hb';have YA:bK W' (ob+1) A2 c2' gs sl:=HR.out.dX (aF.aS (V:=fun _=>False) hb') fun _ h=>h.elim;have hbb1:=dJ.out.below hb';refine(HIH.out g hgm D b1 (o1+i*5) A' c1' tn ov left' (d-1) W' (hg.keep (Keeps.mono (aF.keeps (aF.aS (V:=fun _=>False) hb') fun _ _ (_:True) h=>h) fun _ _=>trivial)) HD.out hbb1 (fun h=>(Ej.out h).2.2.2) hlm (by omega) (by have:=HLF2.out;omega) (by omega)).mono ?_;rintro e w5 ⟨hc5,v5,g',l5,rfl,⟨A5,c5,rfl,Vd⟩,hb5,hl5,hm5,fM⟩;rw[<-hkg]at hb5 fM;refine⟨g',A5,c5,l5,rfl,hc5,(HIC.out.trans (aF.aS hb')).trans hc5,YE.dX hc5 (by omega),YA.dX hc5 fun x hx=>by have:=AZ.out;have:=HS1.out;omega,hb5,?_,hl5,hm5,fM,?_⟩
          ·have hob2:=lt_of_block YE
           refine Vd.mono fun x hx _=>⟨⟨by have:=hx.1;omega,hx.2⟩,fun e=>?_⟩;have:=(YA.ge e).2;have:=hx.1;omega
          ·have:=(HHR.out.keep (aF.keeps ((aF.aS (V:=fun x=>x=bb) hb').trans hc5) fun k _ hk hv=>HD.out k hk hv)).c4
           exact this
         obtain⟨i0,hti,hz0,hz1,hz2⟩:=info_parts iy;have qbe:bb<ob+1:=by have:=AZ.out;have:=HS1.out;omega
         obtain⟨x0,x1,x2,x3,x4,xl⟩:=HO.out.cells;have HKG:=hid hkg;have WT:=hid HX.out;clear HX hgm hkg hov c0 c1 c2 c3 x0 x1 x2 x3;have hgl1:(gs.length:Int)<(gs.length:Int)+1:=by omega
         go_upto_region 31 with(fail)
         rename_i K32 z1 z2 Q32 qdN
         refine jP K32 (List.range' 154 18) (fun us W'=>S9 bb ob w1 (cu neg f.op) f.name (mQ neg f.op f.val) left d (oM neg f.op++(Hq (qQ neg f.op) (pG neg f.op) f.args).take (i+1)) (1+(i+1)) W') ?_ ?_
         ·intro us6 W32 hI32
          apply qdN;simp only[jE,List.range',List.range'_succ,Act.put,List.setIfInBounds_toArray,List.set_cons_zero,List.set_cons_succ];clear qdN K32 c4 x4 l1 l2 xl;go_wp2_with fail
          go_roundw
          case rel=>exact⟨i+1,by omega,by go_num,hI32⟩
          case measure=>simp[intOf];omega
         intro gQ;have kQ:=hid gQ
         have qe7:=hid (show oM neg f.op++(Hq (qQ neg f.op) (pG neg f.op) f.args).take (i+1)=(oM neg f.op++(Hq (qQ neg f.op) (pG neg f.op) f.args).take i) ++ [kg]by
          rw[YO _ _ _ hlt,List.append_assoc,HKG.out,HTN.out,WT.out])
         clear gQ qdN
         go_region_law (first|(refine bW _ (by rfl) _ _ 22 (by rfl) (ob+1) 24 i0 _ 5 64 Tryz.underlying22 hti hz0 hz1 hz2 rfl (by omega) (.slice A2 gs.length c2') gs.length (bI gs sl) (by rfl) (by first|exact Ho.own|exact(Ho.alloc _).own|exact(Ho.alloc _).drew.own) _ (some ⟨w5.heap.size,0,none⟩) 1 1 o8 (by rfl) (by first|exact Rd.fresh (D:=aZ) rfl trivial rfl (by omega)|exact Rd.BD (D:=aZ) rfl trivial rfl (by omega)) (by simp[o8,Value.oneCell']) (by have:=HLEN.out;simp only[manyN]at this;omega) (dF (by have:=HLEN.out;simp only[manyN]at this;omega)) (by have:=lt_of_block fM;simp;omega) ?_;intro A6 c6 w6 hown Hl hblk;obtain⟨g6,rfl,hge6,hr6,WW,hb6,hf6,hc6⟩:=IB (w5:=w5) (by first|exact aF.refl _ _|exact(aF.refl _ _).alloc _|exact((aF.refl _ _).alloc _).drew) Ho rfl rfl rfl hown Hl hblk fM (Nat.lt_succ_self _) hb5 qbe hf5;obtain⟨r0,r1,r2,r3,r4,t0,t1,t2,t3,t4,rl⟩:=kT hown (j:=gs.length*5) (by rw[List.drop_left' (iH Ho.len)];rfl);have q54:=aj WW (i:=4) rfl;have p54:=WW.free 4;have l54:=lt_of_block WW;have hgo:¬ob=g6:=(by omega);have hgo':¬g6=ob:=fun e=>hgo e.symm)|(refine bW _ (by rfl) _ _ 22 (by rfl) (ob+1) 24 i0 _ 5 64 Tryz.underlying22 hti hz0 hz1 hz2 rfl (by omega) (.slice A2 gs.length c2') gs.length (bI gs sl) (by rfl) (by first|exact Ho.own|exact(Ho.alloc _).own|exact(Ho.alloc _).drew.own) _ (some ⟨W31.heap.size,0,none⟩) 1 1 o8 (by rfl) (by first|exact(Rd.fresh (w:=W31) (D:=fun k=>k=W31.heap.size) rfl rfl rfl (by omega)).keep (hc5.keeps fun k _ hk hv=>by omega)|exact(Rd.BD (w:=W31) (D:=fun k=>k=W31.heap.size) rfl rfl rfl (by omega)).keep (hc5.keeps fun k _ hk hv=>by omega)) (by simp[o8,Value.oneCell']) (by have:=HLEN.out;simp only[manyN]at this;omega) (dF (by have:=HLEN.out;simp only[manyN]at this;omega)) (by have:=lt_of_block fM;simp;omega) ?_;intro A6 c6 w6 hown Hl hblk;obtain⟨g6,rfl,hge6,hr6,WW,hb6,hf6,hc6⟩:=IB (w5:=w5) (by first|exact aF.refl _ _|exact(aF.refl _ _).alloc _|exact((aF.refl _ _).alloc _).drew) Ho rfl rfl rfl hown Hl hblk fM (Nat.lt_succ_self _) hb5 qbe hf5;obtain⟨r0,r1,r2,r3,r4,t0,t1,t2,t3,t4,rl⟩:=kT hown (j:=gs.length*5) (by rw[List.drop_left' (iH Ho.len)];rfl);have q54:=aj WW (i:=4) rfl;have p54:=WW.free 4;have l54:=lt_of_block WW;have hgo:¬ob=g6:=(by omega);have hgo':¬g6=ob:=fun e=>hgo e.symm)|(go_simp;go_at_call 73;(with_reducible refine(aO.out _ (by first|exact Below.refl _ _|exact(Below.refl _ _).drew|exact(Below.refl _ _).alloc (Nat.le_refl _) _|exact((Below.refl _ _).alloc (Nat.le_refl _) _).drew|go_grown)).mono ?_);rintro e w5 ⟨g',A5,c5,qY,rfl,hc5,hcw5,fM,Ho,hb5,hf5,hl5,hm5,qbl,hc45⟩;have q4:=aj fM (i:=4) rfl;have ql:=lt_of_block fM))
         all_goals
          show K32 _ _;refine yw fun WF hWF=>?_;have YF:bb≠ob:=fun h=>zQ h.symm;have YE:ob<ob+1:=by omega
          have hwo:w1.heap.size<=ob:=by have:=AZ.out;omega
          have qf4:aF (fun x=>x=bb) w1 w6:=hcw5.trans' hc6 fun x hx h=>by have:=AZ.out;omega
          have happ:Eh bb ob (ob+1) (cu neg f.op) f.name v' 0 qY (ov || !bH kg left' (d-1)) (gs ++ [g']) w1 WF:=by
           rw[hWF]
           first
            | with_reducible exact XT rfl rfl YF YE qbe hwo qf4 hb6 WW hr6 hf6
            | with_reducible exact XU rfl rfl YF YE qbe hwo qf4 hb6 WW hr6 hf6
          clear hWF;refine aP kQ.out ?_ ?_
          ·rw[qe7.out]
           exact U6 HOVE.out Ej.out qbl hgl hll hl5 hm5 happ
          ·kernel_rfl
       ·have hii:¬(i:Int)<f.args.length:=by omega
        obtain⟨x0,x1,x2,x3,x4,xl⟩:=HO.out.cells;obtain⟨r0,r1,r2,r3,r4,rl⟩:=(HR1.out.dX HIC.out (by omega)).cells;have p0:=(HR1.out.dX HIC.out (by omega)).free 0;have p1:=(HR1.out.dX HIC.out (by omega)).free 1;have p2:=(HR1.out.dX HIC.out (by omega)).free 2;have p3:=(HR1.out.dX HIC.out (by omega)).free 3;have p4:=(HR1.out.dX HIC.out (by omega)).free 4;go_wp2_with fail
        refine aJ fun WE fB=>?_;have hro:=HR1.out.dX HIC.out (by omega)
        have hOW:OB WE w.heap.size (cu neg f.op) f.name v' 0 A2 gs.length c2':=by
         unfold OB;rw[fB,aB (aB (aB (aB (aB hro _) _) _) _)];rfl
        have hcE:aF (fun x=>x=w.heap.size) wr WE:=by
         rw[fB];exact(((((aF.refl (fun x=>x=w.heap.size) wr).set ⟨w.heap.size,0,none⟩ _ fun _=>rfl).set ⟨w.heap.size,1,none⟩ _ fun _=>rfl).set ⟨w.heap.size,2,none⟩ _ fun _=>rfl).set ⟨w.heap.size,3,none⟩ _ fun _=>rfl).set ⟨w.heap.size,4,none⟩ _ fun _=>rfl
        have hie:(Hq (qQ neg f.op) (pG neg f.op) f.args).take i=Hq (qQ neg f.op) (pG neg f.op) f.args:=List.take_of_length_le (by rw[KA];omega);obtain⟨y0,y1,y2,y3,y4,yl⟩:=hOW.cells;have hfin:=Ym (bb:=bb) (ob:=ob) (rb:=w.heap.size) (k:=gs.length) hs h4 h13 QX h3 (by rw[hie]) Il.out HIC.out (Nat.le_refl _) (by have:=AZ.out;have:=HS1.out;omega) hbl HR.out dJ.out rfl (by have:=HLEN.out;simp only[manyN]at this;omega) hll hlm Ej.out hcE;clear fB hro hcE;exact bodyPost_ret (v := .agg #[.int .i64 (cu neg f.op),.string f.name,.int .i64 v',.int .i64 0,.slice A2 gs.length c2']) (by simp[results,Tryz.results73,go_sem,y0,y1,y2,y3,y4]) rfl hfin
end Go.Proofs.YtdpbgcmfeajigaaGreatDoor
