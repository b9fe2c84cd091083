/-
  Parts of a proof: HE HF.
-/
import Derived.Test.YtdpbgcmfeajigaaGreatDoorP13
set_option linter.unusedSimpArgs false
set_option linter.unusedVariables false
set_option maxHeartbeats 8000000
set_option maxRecDepth 100000
namespace Go.Proofs.YtdpbgcmfeajigaaGreatDoor
open Go.RowKit Go.Shelf
attribute [local go_sem] ak jG ni jF sH
theorem dA.wrap {bb rb:Nat}{k:Fm}{left:Int}{ov:Bool}{w W w5 w6:World}{v:Value}(h:dA bb k left ov W (.returned v) w5)(hW:aF (fun x=>x=bb) w W)(hrb:w.heap.size<=rb)(hrW:rb<W.heap.size)(hbb:bb<w.heap.size)(hset:aF (fun x=>x=rb) w5 w6) :
  dA bb k left ov w (.returned v) w6:=by
 obtain⟨hc,v',g,left',hv,⟨A,c,he,ha⟩,hb,hl,hm,hov⟩:=h;refine⟨(hW.trans hc).trans' hset fun x hx h=>by omega,v',g,left',hv,⟨A,c,he,?_⟩,hb.dX hset (by omega),hl,hm,hov⟩;exact(ha.nw hset fun x h=>by omega).base hW.size
theorem dA.val {bb:Nat}{k:Fm}{left:Int}{ov:Bool}{w w':World}{e:Ending}(h:dA bb k left ov w e w'):∃(g:Fm) (A:Option Addr) (c:Nat),e = .returned (.agg #[.int .i64 g.op,.string g.name,.int .i64 g.val,.int .i64 g.bound,.slice A g.args.length c]):=by
 obtain⟨_,v,g,l,rfl,⟨A,c,rfl,_⟩,_⟩:=h;exact⟨g,A,c,rfl⟩
theorem bM.lit {W:World}{base k n:Nat}{gs:List Fm}{sl:List (Option Addr×Nat)}{cs:Array Value}(hk:W.heap[k]?=some (.cells cs 24 (0,0)))(hcs:cs.toList=bI gs sl)(hsl:sl.length=gs.length)(hb:base<=k)(hn:n=gs.length)(hl:n<=1000000)
  (ha:∀i,i<gs.length->bM W (Nw base W) (gs.getD i default).args (sl.getD i (none,0)).1 (sl.getD i (none,0)).2):bM W (Nw base W) gs (some ⟨k,0,none⟩) n:=by
 subst hn;refine .mk gs _ _ sl hsl ⟨⟨iH hsl,by omega,Nat.le_refl _,by omega⟩,fun _=>⟨k,0,rfl,⟨hb,_,_,hk⟩,lt_of_block hk,fun j u hu=>?_⟩⟩ ha;rw[Nat.zero_add];refine aj hk ?_;rw[<-hcs]at hu;simpa using hu
theorem U5 (bb:Nat)(k:Fm){b o:Nat}{neg:Bool}{left d:Int}{w:World}(hB:BB w bb left true)(hm : -1<=left) :
  Calls Tryz.prog 73 #[.pointer (some ⟨bb,0,none⟩),.pointer (some ⟨b,o,none⟩),.bool neg,.int .i64 d] w (dA bb k left true w):=by
 have HB:=hid hB;have hbl:=lt_of_block hB;clear hB
 go_enter Tryz.func73,Tryz.ntmps73
 go_upto_region 1 with(fail)
 refine aH fun W hW=>?_;have HW:=hid (show aF (fun x=>x=bb) w W by rw[hW];exact(aF.refl _ w).alloc _);have dY:=hid (show OB W w.heap.size 0 ⟨#[]⟩ 0 0 none 0 0 by rw[hW];exact at_new _ _ _ rfl);have hbw:=HB.out.below (show Below w.heap.size w W by rw[hW];go_grown);have b1:=aj hbw (i:=1) rfl;obtain⟨r0,r1,r2,r3,r4,rl⟩:=dY.out.cells;have p0:=dY.out.free 0;have p1:=dY.out.free 1;have p2:=dY.out.free 2;have p3:=dY.out.free 3;have p4:=dY.out.free 4;have aY:=hid hbw;clear hW hbw;go_wp2_with fail
 refine aJ fun WE fB=>?_;have iY:OB WE w.heap.size 0 ⟨#[]⟩ 0 0 none 0 0:=by rw[fB];exact bC dY.out
 have hcE:aF (fun x=>x=w.heap.size) W WE:=by rw[fB];exact aN _ _ _ _ _ _ _
 obtain⟨y0,y1,y2,y3,y4,yl⟩:=iY.cells;clear fB
 exact bodyPost_ret (v := .agg #[.int .i64 0,.string ⟨#[]⟩,.int .i64 0,.int .i64 0,.slice none 0 0]) (by simp[results,Tryz.results73,go_sem,y0,y1,y2,y3,y4]) rfl
  (dA.zero (rb:=0) (HW.out.trans' hcE fun x hx h=>by omega) (aY.out.dX hcE (by omega)) (Int.le_refl _) hm)
theorem Yn (bb:Nat)(f g:Fm)(hf:f.args = [g])(h4:f.op=4)(ih:zn bb g)
  {D:Dom} {b o:Nat} {A:Option Addr} {c:Nat} {neg:Bool} {left d:Int} {w:World}
  (h:dU w D b o f A c) (hD:∀k,D k->k≠bb) (hB:BB w bb left false) (hl0:0<=left) (hl2:left<=1000000) (hd1 : -1000000<=d) (hd2:d<=1000000) :
  Calls Tryz.prog 73 #[.pointer (some ⟨bb,0,none⟩),.pointer (some ⟨b,o,none⟩),.bool neg,.int .i64 d] w (dA bb (kf (!neg) g) left (!bH (kf (!neg) g) left d) w):=by
 have HH:=hid h;have HB:=hid hB;have hbl:=lt_of_block hB;clear hB h
 go_enter Tryz.func73,Tryz.ntmps73
 go_upto_region 1 with(fail)
 refine aH fun W hW=>?_;have HW:=hid (show aF (fun x=>x=bb) w W by rw[hW];exact(aF.refl _ w).alloc _);have dY:=hid (show OB W w.heap.size 0 ⟨#[]⟩ 0 0 none 0 0 by rw[hW];exact at_new _ _ _ rfl);have hbw:=HB.out.below (show Below w.heap.size w W by rw[hW];go_grown);have TV:=HH.out.keep (HW.out.keeps fun k _ hk hv=>hD k hk hv);have hsz:W.heap.size=w.heap.size+1:=by rw[hW];simp
 have b1:=aj hbw (i:=1) rfl;have hargs:=TV.args;rw[hf]at hargs;obtain⟨b1',o1,A1,c1,g',rfl,hx,hg⟩:=hargs.get (k:=0) (by simp);obtain rfl:g=g':=by have:=hx.out;simpa using this
 rw[Nat.zero_mul,Nat.add_zero]at hg;have HC:=hid (ih D b1' o1 A1 c1 (!neg) false left d W hg hD hbw (fun _=>hl0) (by omega) hl2 hd1 hd2);obtain⟨q1,q2,c0,UN,UO,TG,c4,q3⟩:=TV;rw[h4]at c0;have hlen:f.args.length=1:=by rw[hf];rfl
 rw[hlen]at c4;have jQ:=hid hsz;clear hW hbw hargs hx q3 hf hlen hsz;go_wp2_with (first|(go_at_call 73;refine HC.out.mono ?_;intro e w5 hs5;have hv5:=hs5.val;obtain⟨g5,A5,c5,rfl⟩:=hv5;have fM:=dY.out.dX hs5.1 (by omega);obtain⟨r0,r1,r2,r3,r4,rl⟩:=fM.cells;have p0:=fM.free 0;have p1:=fM.free 1;have p2:=fM.free 2;have p3:=fM.free 3;have p4:=fM.free 4))
 refine aJ fun WE fB=>?_;have iY:OB WE w.heap.size g5.op g5.name g5.val g5.bound A5 g5.args.length c5:=by rw[fB];exact bC fM
 have hcE:aF (fun x=>x=w.heap.size) w5 WE:=by rw[fB];exact aN _ _ _ _ _ _ _
 obtain⟨y0,y1,y2,y3,y4,yl⟩:=iY.cells;clear fB r0 r1 r2 r3 r4 p0 p1 p2 p3 p4
 exact bodyPost_ret (v := .agg #[.int .i64 g5.op,.string g5.name,.int .i64 g5.val,.int .i64 g5.bound,.slice A5 g5.args.length c5]) (by simp[results,Tryz.results73,go_sem,y0,y1,y2,y3,y4]) rfl
  (dA.wrap hs5 HW.out (Nat.le_refl _) (by have:=jQ.out;omega) hbl hcE)
end Go.Proofs.YtdpbgcmfeajigaaGreatDoor
namespace Go.Proofs.YtdpbgcmfeajigaaGreatDoor
open Go.RowKit Go.Shelf
attribute [local go_sem] ak jG ni jF sH xu
theorem Ro (n:ByteArray)(v left d:Int):(!bH (jZ 4 [WX n v]) left d)=(eu left false d || eu (left-1) false (d-1)):=by
 have h1:(!bH (jZ 4 [WX n v]) left d)=F9 [WX n v] left d:=Kr _ _ _ _ _ _ _;rw[h1,Ah _ rfl]
theorem QS (bb:Nat)(f:Fm)(h3:f.op=3)
  {D:Dom} {b o:Nat} {A:Option Addr} {c:Nat} {left d:Int} {w:World}
  (h:dU w D b o f A c) (hD:∀k,D k->k≠bb) (hB:BB w bb left false) (hl0:0<=left) (hl2:left<=1000000) (hd1 : -1000000<=d) (hd2:d<=1000000) :
  Calls Tryz.prog 73 #[.pointer (some ⟨bb,0,none⟩),.pointer (some ⟨b,o,none⟩),.bool true,.int .i64 d] w (dA bb (jZ 4 [WX f.name f.val]) left (!bH (jZ 4 [WX f.name f.val]) left d) w):=by
 rw[Ro];have HH:=hid h;have HD:=hid hD;have HB:=hid hB;have hbl:=lt_of_block hB;clear hB h
 go_enter Tryz.func73,Tryz.ntmps73
 go_upto_region 1 with(fail)
 refine aH fun W hW=>?_;have HW:=hid (show aF (fun x=>x=bb) w W by rw[hW];exact(aF.refl _ w).alloc _);have dY:=hid (show OB W w.heap.size 0 ⟨#[]⟩ 0 0 none 0 0 by rw[hW];exact at_new _ _ _ rfl);have hbw0:b<w.heap.size:=HH.out.lt;have aY:=hid (HB.out.below (show Below w.heap.size w W by rw[hW];go_grown));have jQ:=hid (show W.heap.size=w.heap.size+1 by rw[hW];simp);have HT:=hid (take_any bb left d false W aY.out (by omega) (by omega));obtain⟨q1,q2,c0,UN,UO,TG,c4,q3⟩:=HH.out.keep (HW.out.keeps fun k _ hk hv=>HD.out k hk hv);rw[h3]at c0;have b1:=aj aY.out (i:=1) rfl;have hwd:=IntWalk.i64_in (d-1) (by omega);clear hW q3 UN UO TG;obtain⟨t1,ht1⟩:∃t1,eu left false d=t1:=⟨_,rfl⟩;rw[ht1]at HT⊢
 have HT1:=hid ht1;clear ht1;obtain⟨rb,hrb⟩:∃rb,rb=w.heap.size:=⟨_,rfl⟩;have rW:=hid hrb;have nK:¬rb=bb:=by omega
 rw[<-hrb]at dY;cases t1
 rotate_left
 ·rw[<-hrb]
  clear hrb;go_wp2_with (first|(go_at_call 110;(with_reducible refine HT.out.mono ?_);rintro e w1 ⟨rfl,hc1,hb1⟩;have fM:=dY.out.dX hc1 nK;obtain⟨r0,r1,r2,r3,r4,rl⟩:=fM.cells;have p0:=fM.free 0;have p1:=fM.free 1;have p2:=fM.free 2;have p3:=fM.free 3;have p4:=fM.free 4))
  refine aJ fun WE fB=>?_;have iY:OB WE rb 0 ⟨#[]⟩ 0 0 none 0 0:=by rw[fB];exact bC fM
  have hcE:aF (fun x=>x=rb) w1 WE:=by rw[fB];exact aN _ _ _ _ _ _ _
  obtain⟨y0,y1,y2,y3,y4,yl⟩:=iY.cells;clear fB r0 r1 r2 r3 r4 p0 p1 p2 p3 p4
  exact bodyPost_ret (v := .agg #[.int .i64 0,.string ⟨#[]⟩,.int .i64 0,.int .i64 0,.slice none 0 0]) (by simp[results,Tryz.results73,go_sem,y0,y1,y2,y3,y4]) rfl
   (by rw[HT1.out,Bool.true_or];exact dA.zero (rb:=0) (left':=left-1) ((HW.out.trans hc1).trans' hcE fun x hx h=>absurd (show x=rb from h) (by have:=rW.out;omega)) (BB.dX hb1 hcE (fun h=>nK h.symm)) (by omega) (by omega))
 ·have HL1:=hid (show 1<=left/\1<=d by have:=HT1.out;unfold eu at this;simp at this;omega)
  have HT2:=hid (fun (V:World) (hV:BB V bb (left-1) false)=>take_any bb (left-1) (d-1) false V hV (by omega) (by omega));obtain⟨t2,ht2⟩:∃t2,eu (left-1) false (d-1)=t2:=⟨_,rfl⟩;rw[ht2]at HT2;rw[ht2];have XC:=hid ht2;clear ht2;rw[<-hrb];clear hrb;cases t2
  rotate_left
  ·go_wp2_with (first|(go_at_call 110;(with_reducible refine HT.out.mono ?_);rintro e w1 ⟨rfl,hc1,hb1⟩)|(go_at_call 110;(with_reducible refine(HT2.out _ hb1).mono ?_);rintro e w2 ⟨rfl,hc2,hb2⟩;have fM:=(dY.out.dX hc1 nK).dX hc2 nK;obtain⟨r0,r1,r2,r3,r4,rl⟩:=fM.cells;have p0:=fM.free 0;have p1:=fM.free 1;have p2:=fM.free 2;have p3:=fM.free 3;have p4:=fM.free 4))
   refine aJ fun WE fB=>?_;have iY:OB WE rb 0 ⟨#[]⟩ 0 0 none 0 0:=by rw[fB];exact bC fM
   have hcE:aF (fun x=>x=rb) w2 WE:=by rw[fB];exact aN _ _ _ _ _ _ _
   obtain⟨y0,y1,y2,y3,y4,yl⟩:=iY.cells;clear fB r0 r1 r2 r3 r4 p0 p1 p2 p3 p4
   exact bodyPost_ret (v := .agg #[.int .i64 0,.string ⟨#[]⟩,.int .i64 0,.int .i64 0,.slice none 0 0]) (by simp[results,Tryz.results73,go_sem,y0,y1,y2,y3,y4]) rfl
    (by rw[HT1.out,XC.out,Bool.or_true];exact dA.zero (rb:=0) (left':=left-1-1) (((HW.out.trans hc1).trans hc2).trans' hcE fun x hx h=>absurd (show x=rb from h) (by have:=rW.out;omega)) (BB.dX hb2 hcE (fun h=>nK h.symm)) (by omega) (by have:=HL1.out;omega))
  ·go_upto_region 8 with(first|(go_at_call 110;(with_reducible refine HT.out.mono ?_);rintro e w1 ⟨rfl,hc1,hb1⟩)|(go_at_call 110;(with_reducible refine(HT2.out _ hb1).mono ?_);rintro e w2 ⟨rfl,hc2,hb2⟩))
   have HC2:=hid ((HW.out.trans hc1).trans hc2);have Ei:=hid ((dY.out.dX hc1 nK).dX hc2 nK);have HB2:=hid hb2;obtain⟨q1,q2,c0,UN,UO,TG,c4,q3⟩:=HH.out.keep (HC2.out.keeps fun k _ hk hv=>HD.out k hk hv);obtain⟨r0,r1,r2,r3,r4,rl⟩:=Ei.out.cells;have p0:=Ei.out.free 0;have p1:=Ei.out.free 1;have p2:=Ei.out.free 2;have p3:=Ei.out.free 3;have p4:=Ei.out.free 4;clear hc1 hc2 hb1 hb2 q3 c0 TG c4 b1;have hrb1:¬rb=b:=by have:=rW.out;omega
   have hrb2:¬b=rb:=fun h=>hrb1 h.symm
   go_region_held3 (fun W':World=>W'.cell? ⟨b,o+1,none⟩=some (.string f.name)/\W'.cell? ⟨b,o+2,none⟩=some (.int .i64 f.val))
    (first|(go_keep;done))
    (fail)
   refine yw fun W8 uw=>?_
   have hcs:aF (fun x=>x=rb) w2 W8:=by
    rw[uw];exact((aN _ _ _ _ _ _ _).alloc _).drew
   have iY:OB W8 rb 4 ⟨#[]⟩ 0 0 (some ⟨w2.heap.size,0,none⟩) 1 1:=by
    rw[uw];exact(bC Ei.out).alloc _
   have hnew:W8.heap[w2.heap.size]?=some (.cells #[.int .i64 3,.string f.name,.int .i64 f.val,.int .i64 0,.slice none 0 0] 24 (0,0)):=by
    rw[uw];exact at_new _ _ _ (by simp)
   obtain⟨y0,y1,y2,y3,y4,yl⟩:=iY.cells
   have hrd:bM W8 (Nw w.heap.size W8) [WX f.name f.val] (some ⟨w2.heap.size,0,none⟩) 1:=bM.lit (sl := [(none,0)]) hnew rfl rfl HC2.out.size rfl (by omega) fun i hi=>by
    obtain rfl:i=0:=by simpa using hi
    exact bM.nil _ _ _ (Nat.zero_le _)
   have hfin:dA bb (jZ 4 [WX f.name f.val]) left (eu left false d || eu (left-1) false (d-1)) w (.returned (.agg #[.int .i64 4,.string ⟨#[]⟩,.int .i64 0,.int .i64 0,.slice (some ⟨w2.heap.size,0,none⟩) 1 1])) W8:=by
    rw[HT1.out,XC.out];refine⟨HC2.out.trans' hcs fun x hx h=>by have:=rW.out;omega,_,jZ 4 [WX f.name f.val],left-1-1,rfl,⟨_,1,rfl,hrd⟩,BB.dX HB2.out hcs (fun h=>nK h.symm),by omega,by have:=HL1.out;omega,fun _=>⟨rfl,?_,?_⟩⟩
    ·simp[jZ,WX,Fm.size,sizes];omega
    ·have:=XC.out
     unfold eu at this;simp at this;omega
   clear uw hcs iY hnew hrd r0 r1 r2 r3 r4 p0 p1 p2 p3 p4;go_wp2_with fail
   exact bodyPost_ret (v := .agg #[.int .i64 4,.string ⟨#[]⟩,.int .i64 0,.int .i64 0,.slice (some ⟨w2.heap.size,0,none⟩) 1 1]) (by simp[results,Tryz.results73,go_sem,y0,y1,y2,y3,y4]) rfl hfin
end Go.Proofs.YtdpbgcmfeajigaaGreatDoor
