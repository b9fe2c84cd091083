/-
  Walk of the builder: bounded.
-/
import Derived.Test.YtdpbgcmfeajigaaGreatDoorP14
set_option linter.unusedSimpArgs false
set_option linter.unusedVariables false
set_option maxHeartbeats 8000000
set_option maxRecDepth 100000
namespace Go.Proofs.YtdpbgcmfeajigaaGreatDoor
open Go.RowKit Go.Shelf
attribute [local go_sem] ak jG ni jF sH xu
theorem Zt {p:Int}(h r:Fm)(left d:Int):(!bH (jZ p [h,jZ 8 [r]]) left d)=(((eu left false d || eu (left-1) false (d-1)) || !bH h (left-2) (d-1)) || !bH r (left-2-h.size) (d-2)):=by
 have hs:(jZ p [h,jZ 8 [r]]).size=2+h.size+r.size:=by
  rw[Fm.size_eq];have e8:(jZ 8 [r]).size=1+r.size:=by rw[Fm.size_eq];simp[jZ,Fm.args,sizes]
  simp only[jZ,Fm.args,sizes]at e8⊢;rw[e8];omega
 have hd:(jZ p [h,jZ 8 [r]]).depth=1+max h.depth (1+r.depth):=by
  rw[Fm.je];have e8:(jZ 8 [r]).depth=1+r.depth:=by rw[Fm.je];simp[jZ,Fm.args,depths]
  simp only[jZ,Fm.args,depths]at e8⊢;rw[e8];omega
 have h1:=Fm.size_eq h;have h2:=Fm.je h;have h3:=Fm.size_eq r;have h4:=Fm.je r;unfold bH eu;rw[hs,hd]
 have e1:decide (((2+h.size+r.size:Nat):Int)<=left)=(decide ((h.size:Int)<=left-2)&&decide ((r.size:Int)<=left-2-h.size)):=by
  rw[<-Bool.decide_and];exact decide_eq_decide.2 (by omega)
 have e2:decide (((1+max h.depth (1+r.depth):Nat):Int)<=d)=(decide ((h.depth:Int)<=d-1)&&decide ((r.depth:Int)<=d-2)):=by
  rw[<-Bool.decide_and];exact decide_eq_decide.2 (by omega)
 rw[e1,e2]
 by_cases c1:left-1<0
 ·rw[decide_eq_true c1,decide_eq_false (show¬(h.size:Int)<=left-2 by omega)];simp
 ·by_cases c2:d<1
  ·rw[decide_eq_true c2,decide_eq_false (show¬(h.depth:Int)<=d-1 by omega)];simp
  ·by_cases c3:left-1-1<0
   ·rw[decide_eq_true c3,decide_eq_false (show¬(h.size:Int)<=left-2 by omega)];simp
   ·by_cases c4:d-1<1
    ·rw[decide_eq_true c4,decide_eq_false (show¬(h.depth:Int)<=d-1 by omega)];simp
    ·rw[decide_eq_false c1,decide_eq_false c2,decide_eq_false c3,decide_eq_false c4]
     cases decide ((h.size:Int)<=left-2) <;> cases decide ((r.size:Int)<=left-2-h.size) <;> cases decide ((h.depth:Int)<=d-1) <;> cases decide ((r.depth:Int)<=d-2) <;> rfl
theorem dA.out {bb:Nat}{k:Fm}{left:Int}{ov:Bool}{w w':World}{e:Ending}(h:dA bb k left ov w e w'):aF (fun x=>x=bb) w w'/\∃(g:Fm) (A:Option Addr) (c:Nat) (l:Int),e = .returned (.agg #[.int .i64 g.op,.string g.name,.int .i64 g.val,.int .i64 g.bound,.slice A g.args.length c]) /\
  bM w' (Nw w.heap.size w') g.args A c/\BB w' bb l ov/\l<=left /\ -1<=l/\(ov=false->g=k/\l=left-k.size/\0<=l):=by
 obtain⟨hc,v,g,l,rfl,⟨A,c,rfl,ha⟩,hr⟩:=h;exact⟨hc,g,A,c,l,rfl,ha,hr⟩
def JM (bb:Nat)(f g:Fm)(n:Nat):Prop:=∀(D:Dom) (b o:Nat) (A:Option Addr) (c:Nat) (neg over:Bool) (left d:Int) (w:World),dU w D b o f A c->(∀k,D k->k≠bb)->BB w bb left over->(over=false->0<=left) -> -1<=left->left<=1000000 -> -1000000<=d->d<=1000000 ->
 Calls Tryz.prog 111 #[.pointer (some ⟨bb,0,none⟩),.pointer (some ⟨b,o,none⟩),.int .i64 (n:Int),.bool neg,.int .i64 d] w (dA bb (nV (cu neg f.op) n (kf neg g)) left (over || !bH (nV (cu neg f.op) n (kf neg g)) left d) w)
theorem J5 (bb:Nat)(f g:Fm)(hf:f.args = [g])(ih:zn bb g):JM bb f g 0:=by
 intro D b o A c neg over left d w h hD hB hl0 hl1 hl2 hd1 hd2;have HH:=hid h;have HB:=hid hB;have hbl:=lt_of_block hB;clear hB h
 go_enter Tryz.func111,Tryz.ntmps111
 go_upto_region 1 with(fail)
 refine aH fun W hW=>?_;have HW:=hid (show aF (fun x=>x=bb) w W by rw[hW];exact(aF.refl _ w).alloc _);have dY:=hid (show OB W w.heap.size 0 ⟨#[]⟩ 0 0 none 0 0 by rw[hW];exact at_new _ _ _ rfl);have hbw:=HB.out.below (show Below w.heap.size w W by rw[hW];go_grown);have TV:=HH.out.keep (HW.out.keeps fun k _ hk hv=>hD k hk hv);have hsz:W.heap.size=w.heap.size+1:=by rw[hW];simp
 have hargs:=TV.args;rw[hf]at hargs;obtain⟨b1',o1,A1,c1,g',rfl,hx,hg⟩:=hargs.get (k:=0) (by simp);obtain rfl:g=g':=by have:=hx.out;simpa using this
 rw[Nat.zero_mul,Nat.add_zero]at hg;have HC:=hid (ih D b1' o1 A1 c1 neg over left d W hg hD hbw hl0 hl1 hl2 (by omega) hd2);obtain⟨q1,q2,c0,UN,UO,TG,c4,q3⟩:=TV;have hlen:f.args.length=1:=by rw[hf];rfl
 rw[hlen]at c4;have jQ:=hid hsz;clear hW hbw hargs hx q3 hf hlen hsz;go_wp2_with (first|(go_at_call 73;refine HC.out.mono ?_;intro e w5 hs5;have hv5:=hs5.val;obtain⟨g5,A5,c5,rfl⟩:=hv5;have fM:=dY.out.dX hs5.1 (by omega);obtain⟨r0,r1,r2,r3,r4,rl⟩:=fM.cells;have p0:=fM.free 0;have p1:=fM.free 1;have p2:=fM.free 2;have p3:=fM.free 3;have p4:=fM.free 4))
 refine aJ fun WE fB=>?_;have iY:OB WE w.heap.size g5.op g5.name g5.val g5.bound A5 g5.args.length c5:=by rw[fB];exact bC fM
 have hcE:aF (fun x=>x=w.heap.size) w5 WE:=by rw[fB];exact aN _ _ _ _ _ _ _
 obtain⟨y0,y1,y2,y3,y4,yl⟩:=iY.cells;clear fB r0 r1 r2 r3 r4 p0 p1 p2 p3 p4
 exact bodyPost_ret (v := .agg #[.int .i64 g5.op,.string g5.name,.int .i64 g5.val,.int .i64 g5.bound,.slice A5 g5.args.length c5]) (by simp[results,Tryz.results111,go_sem,y0,y1,y2,y3,y4]) rfl
  (dA.wrap hs5 HW.out (Nat.le_refl _) (by have:=jQ.out;omega) hbl hcE)
theorem J4 (bb:Nat)(f g:Fm)(n:Nat)(hf:f.args = [g])(ih:zn bb g)(ihn:JM bb f g n)(hn:n<1000):JM bb f g (n+1):=by
 intro D b o A c neg over left d w h hD hB hl0 hl1 hl2 hd1 hd2;have HH:=hid h;have HD:=hid hD;have HB:=hid hB;have hbl:=lt_of_block hB;have hn0:(((n+1:Nat):Int)==0)=false:=by rw[beq_eq_false_iff_ne];omega
 clear hB h
 go_enter Tryz.func111,Tryz.ntmps111
 go_upto_region 1 with(fail)
 refine aH fun W hW=>?_;have HW:=hid (show aF (fun x=>x=bb) w W by rw[hW];exact(aF.refl _ w).alloc _);have dY:=hid (show OB W w.heap.size 0 ⟨#[]⟩ 0 0 none 0 0 by rw[hW];exact at_new _ _ _ rfl);have aY:=hid (HB.out.below (show Below w.heap.size w W by rw[hW];go_grown));have jQ:=hid (show W.heap.size=w.heap.size+1 by rw[hW];simp);clear hW;obtain⟨rb,hrb⟩:∃rb,rb=w.heap.size:=⟨_,rfl⟩;have rW:=hid hrb;have nK:¬rb=bb:=by omega
 rw[<-hrb]at dY⊢;clear hrb;have b1:=aj aY.out (i:=1) rfl;obtain⟨q1,q2,c0,UN,UO,TG,c4,q3⟩:=HH.out.keep (HW.out.keeps fun k _ hk hv=>HD.out k hk hv);clear q3 UN UO TG c4 c0;have hwd:=IntWalk.i64_in (d-1) (by omega);have hwd2:=IntWalk.i64_in (d-2) (by omega);cases over
 rotate_left
 ·obtain⟨r0,r1,r2,r3,r4,rl⟩:=dY.out.cells
  have p0:=dY.out.free 0;have p1:=dY.out.free 1;have p2:=dY.out.free 2;have p3:=dY.out.free 3;have p4:=dY.out.free 4;go_wp2_with fail
  refine aJ fun WE fB=>?_;have iY:OB WE rb 0 ⟨#[]⟩ 0 0 none 0 0:=by rw[fB];exact bC dY.out
  have hcE:aF (fun x=>x=rb) W WE:=by rw[fB];exact aN _ _ _ _ _ _ _
  obtain⟨y0,y1,y2,y3,y4,yl⟩:=iY.cells;clear fB r0 r1 r2 r3 r4 p0 p1 p2 p3 p4
  exact bodyPost_ret (v := .agg #[.int .i64 0,.string ⟨#[]⟩,.int .i64 0,.int .i64 0,.slice none 0 0]) (by simp[results,Tryz.results111,go_sem,y0,y1,y2,y3,y4]) rfl
   (by rw[Bool.true_or];exact dA.zero (rb:=0) (left':=left) (HW.out.trans' hcE fun x hx h=>absurd (show x=rb from h) (by have:=rW.out;omega)) (BB.dX aY.out hcE (fun h=>nK h.symm)) (by omega) hl1)
 ·have hl0':=hl0 rfl
  clear hl0;have Xv:=hid (Zt (p:=cu neg f.op) (kf neg g) (nV (cu neg f.op) n (kf neg g)) left d);have HT:=hid (take_any bb left d false W aY.out (by omega) (by omega));obtain⟨t1,ht1⟩:∃t1,eu left false d=t1:=⟨_,rfl⟩;rw[ht1]at HT Xv;have HT1:=hid ht1;clear ht1;cases t1
  rotate_left
  ·go_wp2_with (first|(go_at_call 110;(with_reducible refine HT.out.mono ?_);rintro e w1 ⟨rfl,hc1,hb1⟩;have fM:=dY.out.dX hc1 nK;obtain⟨r0,r1,r2,r3,r4,rl⟩:=fM.cells;have p0:=fM.free 0;have p1:=fM.free 1;have p2:=fM.free 2;have p3:=fM.free 3;have p4:=fM.free 4))
   refine aJ fun WE fB=>?_;have iY:OB WE rb 0 ⟨#[]⟩ 0 0 none 0 0:=by rw[fB];exact bC fM
   have hcE:aF (fun x=>x=rb) w1 WE:=by rw[fB];exact aN _ _ _ _ _ _ _
   obtain⟨y0,y1,y2,y3,y4,yl⟩:=iY.cells;clear fB r0 r1 r2 r3 r4 p0 p1 p2 p3 p4
   exact bodyPost_ret (v := .agg #[.int .i64 0,.string ⟨#[]⟩,.int .i64 0,.int .i64 0,.slice none 0 0]) (by simp[results,Tryz.results111,go_sem,y0,y1,y2,y3,y4]) rfl
    (by
     have hov:(false || !bH (nV (cu neg f.op) (n+1) (kf neg g)) left d)=true:=by
      rw[Bool.false_or];show(!bH (jZ (cu neg f.op) [kf neg g,jZ 8 [nV (cu neg f.op) n (kf neg g)]]) left d)=true;rw[Xv.out];simp
     rw[hov]
     exact dA.zero (rb:=0) (left':=left-1) ((HW.out.trans hc1).trans' hcE fun x hx h=>absurd (show x=rb from h) (by have:=rW.out;omega)) (BB.dX hb1 hcE (fun h=>nK h.symm)) (by omega) (by omega))
  ·have HL1:=hid (show 1<=left/\1<=d by have:=HT1.out;unfold eu at this;simp at this;omega)
   have HT2:=hid (fun (V:World) (hV:BB V bb (left-1) false)=>take_any bb (left-1) (d-1) false V hV (by omega) (by omega));obtain⟨t2,ht2⟩:∃t2,eu (left-1) false (d-1)=t2:=⟨_,rfl⟩;rw[ht2]at HT2 Xv;have XC:=hid ht2;clear ht2;cases t2
   rotate_left
   ·go_wp2_with (first|(go_at_call 110;(with_reducible refine HT.out.mono ?_);rintro e w1 ⟨rfl,hc1,hb1⟩)|(go_at_call 110;(with_reducible refine(HT2.out _ hb1).mono ?_);rintro e w2 ⟨rfl,hc2,hb2⟩;have fM:=(dY.out.dX hc1 nK).dX hc2 nK;obtain⟨r0,r1,r2,r3,r4,rl⟩:=fM.cells;have p0:=fM.free 0;have p1:=fM.free 1;have p2:=fM.free 2;have p3:=fM.free 3;have p4:=fM.free 4))
    refine aJ fun WE fB=>?_;have iY:OB WE rb 0 ⟨#[]⟩ 0 0 none 0 0:=by rw[fB];exact bC fM
    have hcE:aF (fun x=>x=rb) w2 WE:=by rw[fB];exact aN _ _ _ _ _ _ _
    obtain⟨y0,y1,y2,y3,y4,yl⟩:=iY.cells;clear fB r0 r1 r2 r3 r4 p0 p1 p2 p3 p4
    exact bodyPost_ret (v := .agg #[.int .i64 0,.string ⟨#[]⟩,.int .i64 0,.int .i64 0,.slice none 0 0]) (by simp[results,Tryz.results111,go_sem,y0,y1,y2,y3,y4]) rfl
     (by
      have hov:(false || !bH (nV (cu neg f.op) (n+1) (kf neg g)) left d)=true:=by
       rw[Bool.false_or];show(!bH (jZ (cu neg f.op) [kf neg g,jZ 8 [nV (cu neg f.op) n (kf neg g)]]) left d)=true;rw[Xv.out];simp
      rw[hov]
      exact dA.zero (rb:=0) (left':=left-1-1) (((HW.out.trans hc1).trans hc2).trans' hcE fun x hx h=>absurd (show x=rb from h) (by have:=rW.out;omega)) (BB.dX hb2 hcE (fun h=>nK h.symm)) (by omega) (by have:=HL1.out;omega))
   ·go_upto_region 5 with(first|(go_at_call 110;(with_reducible refine HT.out.mono ?_);rintro e w1 ⟨rfl,hc1,hb1⟩)|(go_at_call 110;(with_reducible refine(HT2.out _ hb1).mono ?_);rintro e w2 ⟨rfl,hc2,hb2⟩))
    have HC2:=hid ((HW.out.trans hc1).trans hc2);have Ei:=hid ((dY.out.dX hc1 nK).dX hc2 nK);have HB2:=hid (show BB w2 bb (left-2) false by have:=hb2;rwa [show left-1-1=left-2 by omega]at this);obtain⟨q1,q2,c0,UN,UO,TG,c4,q3⟩:=HH.out.keep (HC2.out.keeps fun k _ hk hv=>HD.out k hk hv);clear hc1 hc2 hb1 hb2 q3 UN UO TG b1 HT HT2;obtain⟨ob,hob⟩:∃ob,ob=w2.heap.size:=⟨_,rfl⟩;have Qa:=hid hob;clear hob;go_upto_region 6 with(first|(go_at_call 112;(with_reducible refine(NC f.op _).mono ?_);rintro e w9 ⟨rfl,NK⟩;rw[NK];clear NK))
    have hob:=Qa.out;rw[<-hob];refine aH fun W6 TU=>?_;have HC6:=hid (show aF (fun x=>x=bb) w W6 by rw[TU];exact HC2.out.alloc _);have Xu:=hid (show OB W6 ob (Fv f.op) ⟨#[]⟩ 0 0 none 0 0 by rw[TU];exact at_new _ _ _ hob);have HR6:=hid (show OB W6 rb 0 ⟨#[]⟩ 0 0 none 0 0 by rw[TU];exact Ei.out.alloc _);have G7:=hid (show BB W6 bb (left-2) false by rw[TU];exact(aQ _ _ _ (lt_of_block HB2.out)).trans HB2.out);have hrob:rb<ob:=by rw[hob];exact lt_of_block Ei.out
    have hwob:w.heap.size<ob:=by have:=rW.out;omega
    clear TU hob q1 q2 c0 c4;obtain⟨x0,x1,x2,x3,x4,xl⟩:=Xu.out.cells;have y0:=Xu.out.free 0
    rename_i K8 hK8 K7 hK7
    refine jP K8 (List.range' 49 5) (fun us W'=>aF (fun x=>x=bb) w W'/\OB W' ob (cu neg f.op) ⟨#[]⟩ 0 0 none 0 0/\BB W' bb (left-2) false/\OB W' rb 0 ⟨#[]⟩ 0 0 none 0 0) ?_ ?_
    rotate_left
    ·intro gQ
     have kQ:=hid gQ;clear gQ hK8;cases neg
     ·go_wp2_with fail
      refine aP kQ.out ⟨HC6.out,Xu.out,G7.out,HR6.out⟩ ?_
      kernel_rfl
     ·go_wp2_with (first|(go_at_call 113;refine(Nu _ _).mono ?_;rintro e w9 ⟨rfl,NK⟩;rw[NK];clear NK))
      have hcs:aF (fun x=>x=ob) W6 (W6.setCell ⟨ob,0,none⟩ (.int .i64 (TM (Fv f.op)))):=(aF.refl (fun x=>x=ob) W6).set ⟨ob,0,none⟩ _ fun _=>rfl;refine aP kQ.out ⟨HC6.out.trans' hcs fun x hx h=>absurd (show x=ob from h) (by omega),?_,G7.out.dX hcs (by omega),HR6.out.dX hcs (by omega)⟩ ?_
      ·unfold OB
       rw[aB Xu.out];rfl
      ·kernel_rfl
    ·rintro us3 W8 ⟨hc8,ho8,hb8,hr8⟩
     apply hK8;simp only[jE,List.range',List.range'_succ,Act.put,List.setIfInBounds_toArray,List.set_cons_zero,List.set_cons_succ];clear hK8 hK7 K8 K7 x0 x1 x2 x3 x4 xl y0;have HC8:=hid hc8;have HO8:=hid ho8;have wY:=hid hb8;have HR8:=hid hr8;have TV:=HH.out.keep (hc8.keeps fun k _ hk hv=>HD.out k hk hv);have hargs:=TV.args;rw[hf]at hargs;obtain⟨b1',o1,A1,c1,g',rfl,hx,hg⟩:=hargs.get (k:=0) (by simp);obtain rfl:g=g':=by have:=hx.out;simpa using this
     rw[Nat.zero_mul,Nat.add_zero]at hg;have HL2:=hid (show 2<=left/\2<=d by have:=XC.out;unfold eu at this;simp at this;omega);have HC:=hid (ih D b1' o1 A1 c1 neg false (left-2) (d-1) W8 hg HD.out hb8 (fun _=>by have:=HL2.out;omega) (by have:=HL2.out;omega) (by omega) (by have:=HL2.out;omega) (by omega));obtain⟨q1,q2,c0,UN,UO,TG,c4,q3⟩:=TV;have hlen:f.args.length=1:=by rw[hf];rfl
     rw[hlen]at c4;have HLEN:=hid hlen;clear hc8 ho8 hb8 hr8 hargs hx hg q3 UN UO TG c0 hlen;go_upto_region 9 with(first|(go_at_call 73;(with_reducible refine HC.out.mono ?_);intro e w9 hs9;obtain⟨Hg,g9,A9,c9,l9,rfl,Yu,vg,hl9,hm9,qdV⟩:=hs9.out;clear hs9))
     refine aH fun W9 zk=>?_;have qbg:aF (fun x=>x=bb) w9 W9:=by rw[zk];exact(aF.refl _ w9).alloc _
     have qeC:=hid (show OB W9 w9.heap.size g9.op g9.name g9.val g9.bound A9 g9.args.length c9 by rw[zk];exact at_new _ _ _ rfl);have qfW:BB W9 bb l9 (false || !bH (kf neg g) (left-2) (d-1)):=by rw[zk];exact(aQ _ _ _ (lt_of_block vg)).trans vg
     have qgd:bb<w9.heap.size:=lt_of_block vg;have HC9:=hid ((HC8.out.trans Hg).trans qbg);have HO9:=hid ((HO8.out.dX Hg (by omega)).dX qbg (by omega));have HR9:=hid ((HR8.out.dX Hg (by omega)).dX qbg (by omega));have HA9:=hid (show bM W9 (Nw W8.heap.size W9) g9.args A9 c9 from Yu.nw (V:=fun _=>False) (by rw[zk];exact(aF.refl _ w9).alloc _) fun _ h=>h.elim);have qdY:W9.heap.size=w9.heap.size+1:=by rw[zk];simp
     have TV:=HH.out.keep (HC9.out.keeps fun k _ hk hv=>HD.out k hk hv);have HC:=hid (ihn D b o (some ⟨b1',o1,none⟩) c neg (false || !bH (kf neg g) (left-2) (d-1)) l9 (d-2) W9 TV HD.out qfW (fun h=>(qdV h).2.2) hm9 (by omega) (by have:=HL2.out;omega) (by omega));obtain⟨b12,qbc⟩:∃b12,b12=w9.heap.size:=⟨_,rfl⟩;rw[<-qbc]at qeC qdY⊢;have hl12:ob<b12:=by rw[qbc];exact lt_of_block (HO8.out.dX Hg (by omega))
     have qfh:=hid qdV;have HLL9:=hid hl9;have hwn:IntKind.i64.wrap (((n+1:Nat):Int)-1)=(n:Int):=by rw[show((n+1:Nat):Int)-1=(n:Int)by omega];exact IntWalk.i64_in _ (by omega)
     have hlw8:w.heap.size<=W8.heap.size:=HC8.out.size;have hlW8:ob<W8.heap.size:=lt_of_block HO8.out;have hW8b:W8.heap.size<=b12:=by rw[qbc];exact Hg.size
     clear zk Hg Yu vg hl9 hm9 qdV qbg qfW TV qbc q1 q2 c4 qgd;go_upto_region 10 with(first|(go_at_call 111;(with_reducible refine HC.out.mono ?_);intro e w10 hs10;obtain⟨Q5,g10,A10,c10,l10,rfl,Yt,qdQ,hl10,hm10,qck⟩:=hs10.out;clear hs10))
     trace "R10"
     refine aH fun Hf Vb=>?_;have Jd:aF (fun x=>x=bb) w10 Hf:=by rw[Vb];exact(aF.refl _ w10).alloc _
     have Xd:=hid (show OB Hf w10.heap.size g10.op g10.name g10.val g10.bound A10 g10.args.length c10 by rw[Vb];exact at_new _ _ _ rfl);have HC10:=hid ((HC9.out.trans Q5).trans Jd);have qcV:=hid ((HO9.out.dX Q5 (by omega)).dX Jd (by omega));have jS:=hid ((HR9.out.dX Q5 (by omega)).dX Jd (by omega));have qeD:=hid ((qeC.out.dX Q5 (by omega)).dX Jd (by omega));have JQ:=hid (show BB Hf bb l10 ((false || !bH (kf neg g) (left-2) (d-1)) || !bH (nV (cu neg f.op) n (kf neg g)) l9 (d-2))by rw[Vb];exact(aQ _ _ _ (lt_of_block qdQ)).trans qdQ);have qcf:∀x,x=bb->x<W8.heap.size:=fun x h=>by omega
     have HA9':=hid ((HA9.out.nw Q5 qcf).nw Jd qcf);have HA10:=hid (show bM Hf (Nw W9.heap.size Hf) g10.args A10 c10 from Yt.nw (V:=fun _=>False) (by rw[Vb];exact(aF.refl _ w10).alloc _) fun _ h=>h.elim);have YG:Hf.heap.size=w10.heap.size+1:=by rw[Vb];simp
     have qgb:W9.heap.size<=w10.heap.size:=Q5.size;obtain⟨b13,Yw⟩:∃b13,b13=w10.heap.size:=⟨_,rfl⟩;rw[<-Yw]at Xd YG qgb⊢;have qbY:=hid YG;have qaN:=hid qdY;clear Vb Q5 Jd qdQ Yt Yw YG qdY;obtain⟨x0,x1,x2,x3,x4,xl⟩:=qeD.out.cells;obtain⟨z0,z1,z2,z3,z4,zl⟩:=Xd.out.cells;obtain⟨u0,u1,u2,u3,u4,ul⟩:=qcV.out.cells;have v4:=qcV.out.free 4;go_upto_region 11 with(fail)
     refine aH fun Z9 Yp=>?_
     have qci:OB (Hf.setCell ⟨ob,4,none⟩ (.slice (some ⟨Hf.heap.size+1,0,none⟩) 2 2)) ob (cu neg f.op) ⟨#[]⟩ 0 0 (some ⟨Hf.heap.size+1,0,none⟩) 2 2:=by
      unfold OB;rw[aB qcV.out];rfl
     have qgg:OB Z9 ob (cu neg f.op) ⟨#[]⟩ 0 0 (some ⟨Hf.heap.size+1,0,none⟩) 2 2:=by
      rw[Yp];exact(qci.alloc _).alloc _
     have hcs:aF (fun x=>x=ob) Hf Z9:=by
      rw[Yp];exact(((aF.refl (fun x=>x=ob) Hf).set ⟨ob,4,none⟩ _ fun _=>rfl).alloc _).alloc _
     have hn1:Z9.heap[Hf.heap.size]?=some (.cells #[.int .i64 g10.op,.string g10.name,.int .i64 g10.val,.int .i64 g10.bound,.slice A10 g10.args.length c10] 24 (0,0)):=by
      rw[Yp,aQ _ _ _ (by simp),at_new _ _ _ (by simp)]
     have hn2:Z9.heap[Hf.heap.size+1]?=some (.cells #[.int .i64 g9.op,.string g9.name,.int .i64 g9.val,.int .i64 g9.bound,.slice A9 g9.args.length c9,.int .i64 8,.string ⟨#[]⟩,.int .i64 0,.int .i64 0,.slice (some ⟨Hf.heap.size,0,none⟩) 1 1] 24 (0,0)):=by
      rw[Yp,at_new _ _ _ (by simp)]
     have hobW:∀x,x=ob->x<W8.heap.size:=fun x h=>by omega
     have Yu:=HA9'.out.nw hcs hobW;have Yt:=(HA10.out.nw hcs fun x h=>by have:=qaN.out;have:x=ob:=h;omega).base (base':=W8.heap.size) (by have:=qaN.out;omega)
     have qcm:bM Z9 (Nw W8.heap.size Z9) [g10] (some ⟨Hf.heap.size,0,none⟩) 1:=bM.lit (sl := [(A10,c10)]) hn1 rfl rfl (by have:=qbY.out;have:=qaN.out;omega) rfl (by omega) fun i hi=>by
      obtain rfl:i=0:=by simpa using hi
      exact Yt
     have HRD:=hid (show bM Z9 (Nw W8.heap.size Z9) [g9,jZ 8 [g10]] (some ⟨Hf.heap.size+1,0,none⟩) 2 from bM.lit (sl := [(A9,c9),(some ⟨Hf.heap.size,0,none⟩,1)]) hn2 rfl rfl (by have:=qbY.out;have:=qaN.out;omega) rfl (by omega) fun i hi=>by
      match i,hi with
      | 0,_=>exact Yu
      | 1,_=>exact qcm
      | i+2,hi=>exact absurd hi (by simp))
     have HC11:=hid (HC10.out.trans' hcs fun x hx h=>absurd (show x=ob from h) (by omega));have HB11:=hid (JQ.out.dX hcs (by omega));have qfg:=hid qck;have hrb8:rb<W8.heap.size:=by omega
     have Qc:=hid (jS.out.dX hcs (by omega));clear Yp hcs hn1 hn2 Yu Yt qcm qci qck x0 x1 x2 x3 x4 xl z0 z1 z2 z3 z4 zl u0 u1 u2 u3 u4 v4;obtain⟨u0,u1,u2,u3,u4,ul'⟩:=qgg.cells;obtain⟨r0,r1,r2,r3,r4,rl⟩:=Qc.out.cells;have p0:=Qc.out.free 0;have p1:=Qc.out.free 1;have p2:=Qc.out.free 2;have p3:=Qc.out.free 3;have p4:=Qc.out.free 4;go_wp2_with fail
     refine aJ fun WE fB=>?_;have iY:OB WE rb (cu neg f.op) ⟨#[]⟩ 0 0 (some ⟨Hf.heap.size+1,0,none⟩) 2 2:=by rw[fB];exact bC Qc.out
     have hcE:aF (fun x=>x=rb) Z9 WE:=by rw[fB];exact aN _ _ _ _ _ _ _
     obtain⟨y0,y1,y2,y3,y4,yl⟩:=iY.cells;clear fB r0 r1 r2 r3 r4 p0 p1 p2 p3 p4 u0 u1 u2 u3 u4
     have hfin:dA bb (nV (cu neg f.op) (n+1) (kf neg g)) left (false || !bH (nV (cu neg f.op) (n+1) (kf neg g)) left d) w (.returned (.agg #[.int .i64 (cu neg f.op),.string ⟨#[]⟩,.int .i64 0,.int .i64 0,.slice (some ⟨Hf.heap.size+1,0,none⟩) 2 2])) WE:=by
      have hov:(false || !bH (nV (cu neg f.op) (n+1) (kf neg g)) left d)=((!bH (kf neg g) (left-2) (d-1)) || !bH (nV (cu neg f.op) n (kf neg g)) (left-2-(kf neg g).size) (d-2)):=by
       rw[Bool.false_or];show(!bH (jZ (cu neg f.op) [kf neg g,jZ 8 [nV (cu neg f.op) n (kf neg g)]]) left d)=_;rw[Xv.out];rfl
      have qgj:(((false || !bH (kf neg g) (left-2) (d-1)) || !bH (nV (cu neg f.op) n (kf neg g)) l9 (d-2)))=((!bH (kf neg g) (left-2) (d-1)) || !bH (nV (cu neg f.op) n (kf neg g)) (left-2-(kf neg g).size) (d-2)):=by
       rw[Bool.false_or];cases hq:bH (kf neg g) (left-2) (d-1)
       ·rfl
       ·rw[(qfh.out (by rw[hq];rfl)).2.1]
      rw[hov]
      have qfY:BB WE bb l10 ((!bH (kf neg g) (left-2) (d-1)) || !bH (nV (cu neg f.op) n (kf neg g)) (left-2-(kf neg g).size) (d-2)):=by
       rw[<-qgj];exact HB11.out.dX hcE (fun h=>nK h.symm)
      refine⟨HC11.out.trans' hcE fun x hx h=>absurd (show x=rb from h) (by have:=rW.out;omega),_,jZ (cu neg f.op) [g9,jZ 8 [g10]],l10,rfl,⟨_,2,rfl,(HRD.out.nw hcE fun x h=>by have:x=rb:=h;omega).base hlw8⟩,qfY,by have:=HLL9.out;omega,hm10,fun h=>?_⟩;rw[<-qgj]at h
      have h9:(false || !bH (kf neg g) (left-2) (d-1))=false:=by
       cases hq:(false || !bH (kf neg g) (left-2) (d-1))
       ·rfl
       ·rw[hq]at h;cases h
      obtain⟨e1,e2,e3⟩:=qfh.out h9;obtain⟨e4,e5,e6⟩:=qfg.out h;refine⟨by rw[e1,e4];rfl,?_,e6⟩
      have hs:(nV (cu neg f.op) (n+1) (kf neg g)).size=2+(kf neg g).size+(nV (cu neg f.op) n (kf neg g)).size:=by
       show(jZ (cu neg f.op) [kf neg g,jZ 8 [nV (cu neg f.op) n (kf neg g)]]).size=_;rw[Fm.size_eq];have e8:(jZ 8 [nV (cu neg f.op) n (kf neg g)]).size=1+(nV (cu neg f.op) n (kf neg g)).size:=by rw[Fm.size_eq];simp[jZ,Fm.args,sizes]
       simp only[jZ,Fm.args,sizes]at e8⊢;rw[e8];omega
      rw[hs];omega
     exact bodyPost_ret (v := .agg #[.int .i64 (cu neg f.op),.string ⟨#[]⟩,.int .i64 0,.int .i64 0,.slice (some ⟨Hf.heap.size+1,0,none⟩) 2 2]) (by simp[results,Tryz.results111,go_sem,y0,y1,y2,y3,y4]) rfl
      hfin
end Go.Proofs.YtdpbgcmfeajigaaGreatDoor
