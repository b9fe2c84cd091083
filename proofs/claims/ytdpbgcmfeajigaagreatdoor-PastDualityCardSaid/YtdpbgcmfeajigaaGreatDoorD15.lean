/-
  Walk of the builder: bounded.
-/
import Derived.Test.YtdpbgcmfeajigaaGreatDoorD14
set_option linter.unusedSimpArgs false
set_option linter.unusedVariables false
set_option maxHeartbeats 8000000
set_option maxRecDepth 100000
namespace Go.Proofs.YtdpbgcmfeajigaaGreatDoor
open Go.RowKit Go.Shelf
attribute [local go_sem] ak jJ ng jI sD xg
theorem YO {p:Int}(h r:Fm)(left d:Int):(!bG (iQ p [h,iQ 8 [r]]) left d)=(((eu left false d || eu (left-1) false (d-1)) || !bG h (left-2) (d-1)) || !bG r (left-2-h.size) (d-2)):=by
 have hs:(iQ p [h,iQ 8 [r]]).size=2+h.size+r.size:=by
  rw[Fm.size_eq];have e8:(iQ 8 [r]).size=1+r.size:=by rw[Fm.size_eq];simp[iQ,Fm.args,sizes]
  simp only[iQ,Fm.args,sizes]at e8⊢;rw[e8];omega
 have hd:(iQ p [h,iQ 8 [r]]).depth=1+max h.depth (1+r.depth):=by
  rw[Fm.jZ];have e8:(iQ 8 [r]).depth=1+r.depth:=by rw[Fm.jZ];simp[iQ,Fm.args,depths]
  simp only[iQ,Fm.args,depths]at e8⊢;rw[e8];omega
 have h1:=Fm.size_eq h;have h2:=Fm.jZ h;have h3:=Fm.size_eq r;have h4:=Fm.jZ r;unfold bG eu;rw[hs,hd]
 have e1:decide (((2+h.size+r.size:Nat):Int)<=left)=(decide ((h.size:Int)<=left-2)&&decide ((r.size:Int)<=left-2-h.size)):=by
  rw[<-Bool.decide_and];exact decide_eq_decide.2 (by omega)
 have e2:decide (((1+max h.depth (1+r.depth):Nat):Int)<=d)=(decide ((h.depth:Int)<=d-1)&&decide ((r.depth:Int)<=d-2)):=by
  rw[<-Bool.decide_and];exact decide_eq_decide.2 (by omega)
 rw[e1,e2]
 by_cases c1:left-1<0
 ·rw[decide_eq_true c1,decide_eq_false (show¬(h.size:Int)<=left-2 by omega)];simp
 ·by_cases c2:d<1
  ·rw[decide_eq_true c2,decide_eq_false (show¬(h.depth:Int)<=d-1 by omega)];simp
  ·by_cases c3:left-1-1<0
   ·rw[decide_eq_true c3,decide_eq_false (show¬(h.size:Int)<=left-2 by omega)];simp
   ·by_cases c4:d-1<1
    ·rw[decide_eq_true c4,decide_eq_false (show¬(h.depth:Int)<=d-1 by omega)];simp
    ·rw[decide_eq_false c1,decide_eq_false c2,decide_eq_false c3,decide_eq_false c4]
     cases decide ((h.size:Int)<=left-2) <;> cases decide ((r.size:Int)<=left-2-h.size) <;> cases decide ((h.depth:Int)<=d-1) <;> cases decide ((r.depth:Int)<=d-2) <;> rfl
theorem dh.out {bb:Nat}{k:Fm}{left:Int}{ov:Bool}{w w':World}{e:Ending}(h:dh bb k left ov w e w'):aH (fun x=>x=bb) w w'/\∃(g:Fm) (A:Option Addr) (c:Nat) (l:Int),e = .returned (.agg #[.int .i64 g.op,.string g.name,.int .i64 g.val,.int .i64 g.bound,.slice A g.args.length c]) /\
  bP w' (Nw w.heap.size w') g.args A c/\BB w' bb l ov/\l<=left /\ -1<=l/\(ov=false->g=k/\l=left-k.size/\0<=l):=by
 obtain⟨hc,v,g,l,rfl,⟨A,c,rfl,ha⟩,hr⟩:=h;exact⟨hc,g,A,c,l,rfl,ha,hr⟩
def JH (bb:Nat)(f g:Fm)(n:Nat):Prop:=∀(D:Dom) (b o:Nat) (A:Option Addr) (c:Nat) (neg over:Bool) (left d:Int) (w:World),dP w D b o f A c->(∀k,D k->k≠bb)->BB w bb left over->(over=false->0<=left) -> -1<=left->left<=1000000 -> -1000000<=d->d<=1000000 ->
 Calls Tryz.prog 111 #[.pointer (some ⟨bb,0,none⟩),.pointer (some ⟨b,o,none⟩),.int .i64 (n:Int),.bool neg,.int .i64 d] w (dh bb (jO (aY neg f.op) n (kf neg g)) left (over || !bG (jO (aY neg f.op) n (kf neg g)) left d) w)
theorem JX (bb:Nat)(f g:Fm)(hf:f.args = [g])(ih:zx bb g):JH bb f g 0:=by
 intro D b o A c neg over left d w h hD hB hl0 hl1 hl2 hd1 hd2;have HH:=hid h;have HB:=hid hB;have hbl:=lt_of_block hB;clear hB h
 go_enter Tryz.func111,Tryz.ntmps111
 go_upto_region 1 with(fail)
 refine aI fun W hW=>?_;have HW:=hid (show aH (fun x=>x=bb) w W by rw[hW];exact(aH.refl _ w).alloc _);have dW:=hid (show OB W w.heap.size 0 ⟨#[]⟩ 0 0 none 0 0 by rw[hW];exact at_new _ _ _ rfl);have hbw:=HB.out.below (show Below w.heap.size w W by rw[hW];go_grown);have Ti:=HH.out.keep (HW.out.keeps fun k _ hk hv=>hD k hk hv);have hsz:W.heap.size=w.heap.size+1:=by rw[hW];simp
 have hargs:=Ti.args;rw[hf]at hargs;obtain⟨b1',o1,A1,c1,g',rfl,hx,hg⟩:=hargs.get (k:=0) (by simp);obtain rfl:g=g':=by have:=hx.out;simpa using this
 rw[Nat.zero_mul,Nat.add_zero]at hg;have HC:=hid (ih D b1' o1 A1 c1 neg over left d W hg hD hbw hl0 hl1 hl2 (by omega) hd2);obtain⟨q1,q2,c0,Un,Uo,SK,c4,q3⟩:=Ti;have hlen:f.args.length=1:=by rw[hf];rfl
 rw[hlen]at c4;have jQ:=hid hsz;clear hW hbw hargs hx q3 hf hlen hsz;go_wp2_with (first|(go_at_call 73;refine HC.out.mono ?_;intro e w5 hs5;have hv5:=hs5.val;obtain⟨g5,A5,c5,rfl⟩:=hv5;have fH:=dW.out.dV hs5.1 (by omega);obtain⟨r0,r1,r2,r3,r4,rl⟩:=fH.cells;have p0:=fH.free 0;have p1:=fH.free 1;have p2:=fH.free 2;have p3:=fH.free 3;have p4:=fH.free 4))
 refine aJ fun WE dZ=>?_;have iM:OB WE w.heap.size g5.op g5.name g5.val g5.bound A5 g5.args.length c5:=by rw[dZ];exact bf fH
 have hcE:aH (fun x=>x=w.heap.size) w5 WE:=by rw[dZ];exact aN _ _ _ _ _ _ _
 obtain⟨y0,y1,y2,y3,y4,yl⟩:=iM.cells;clear dZ r0 r1 r2 r3 r4 p0 p1 p2 p3 p4
 exact bodyPost_ret (v := .agg #[.int .i64 g5.op,.string g5.name,.int .i64 g5.val,.int .i64 g5.bound,.slice A5 g5.args.length c5]) (by simp[results,Tryz.results111,go_sem,y0,y1,y2,y3,y4]) rfl
  (dh.wrap hs5 HW.out (Nat.le_refl _) (by have:=jQ.out;omega) hbl hcE)
theorem JW (bb:Nat)(f g:Fm)(n:Nat)(hf:f.args = [g])(ih:zx bb g)(ihn:JH bb f g n)(hn:n<1000):JH bb f g (n+1):=by
 intro D b o A c neg over left d w h hD hB hl0 hl1 hl2 hd1 hd2;have HH:=hid h;have HD:=hid hD;have HB:=hid hB;have hbl:=lt_of_block hB;have hn0:(((n+1:Nat):Int)==0)=false:=by rw[beq_eq_false_iff_ne];omega
 clear hB h
 go_enter Tryz.func111,Tryz.ntmps111
 go_upto_region 1 with(fail)
 refine aI fun W hW=>?_;have HW:=hid (show aH (fun x=>x=bb) w W by rw[hW];exact(aH.refl _ w).alloc _);have dW:=hid (show OB W w.heap.size 0 ⟨#[]⟩ 0 0 none 0 0 by rw[hW];exact at_new _ _ _ rfl);have aX:=hid (HB.out.below (show Below w.heap.size w W by rw[hW];go_grown));have jQ:=hid (show W.heap.size=w.heap.size+1 by rw[hW];simp);clear hW;obtain⟨rb,hrb⟩:∃rb,rb=w.heap.size:=⟨_,rfl⟩;have rP:=hid hrb;have nH:¬rb=bb:=by omega
 rw[<-hrb]at dW⊢;clear hrb;have b1:=aj aX.out (i:=1) rfl;obtain⟨q1,q2,c0,Un,Uo,SK,c4,q3⟩:=HH.out.keep (HW.out.keeps fun k _ hk hv=>HD.out k hk hv);clear q3 Un Uo SK c4 c0;have hwd:=IntWalk.i64_in (d-1) (by omega);have hwd2:=IntWalk.i64_in (d-2) (by omega);cases over
 rotate_left
 ·obtain⟨r0,r1,r2,r3,r4,rl⟩:=dW.out.cells
  have p0:=dW.out.free 0;have p1:=dW.out.free 1;have p2:=dW.out.free 2;have p3:=dW.out.free 3;have p4:=dW.out.free 4;go_wp2_with fail
  refine aJ fun WE dZ=>?_;have iM:OB WE rb 0 ⟨#[]⟩ 0 0 none 0 0:=by rw[dZ];exact bf dW.out
  have hcE:aH (fun x=>x=rb) W WE:=by rw[dZ];exact aN _ _ _ _ _ _ _
  obtain⟨y0,y1,y2,y3,y4,yl⟩:=iM.cells;clear dZ r0 r1 r2 r3 r4 p0 p1 p2 p3 p4
  exact bodyPost_ret (v := .agg #[.int .i64 0,.string ⟨#[]⟩,.int .i64 0,.int .i64 0,.slice none 0 0]) (by simp[results,Tryz.results111,go_sem,y0,y1,y2,y3,y4]) rfl
   (by rw[Bool.true_or];exact dh.zero (rb:=0) (left':=left) (HW.out.trans' hcE fun x hx h=>absurd (show x=rb from h) (by have:=rP.out;omega)) (BB.dV aX.out hcE (fun h=>nH h.symm)) (by omega) hl1)
 ·have hl0':=hl0 rfl
  clear hl0;have WQ:=hid (YO (p:=aY neg f.op) (kf neg g) (jO (aY neg f.op) n (kf neg g)) left d);have HT:=hid (take_any bb left d false W aX.out (by omega) (by omega));obtain⟨t1,ht1⟩:∃t1,eu left false d=t1:=⟨_,rfl⟩;rw[ht1]at HT WQ;have HT1:=hid ht1;clear ht1;cases t1
  rotate_left
  ·go_wp2_with (first|(go_at_call 110;(with_reducible refine HT.out.mono ?_);rintro e w1 ⟨rfl,hc1,hb1⟩;have fH:=dW.out.dV hc1 nH;obtain⟨r0,r1,r2,r3,r4,rl⟩:=fH.cells;have p0:=fH.free 0;have p1:=fH.free 1;have p2:=fH.free 2;have p3:=fH.free 3;have p4:=fH.free 4))
   refine aJ fun WE dZ=>?_;have iM:OB WE rb 0 ⟨#[]⟩ 0 0 none 0 0:=by rw[dZ];exact bf fH
   have hcE:aH (fun x=>x=rb) w1 WE:=by rw[dZ];exact aN _ _ _ _ _ _ _
   obtain⟨y0,y1,y2,y3,y4,yl⟩:=iM.cells;clear dZ r0 r1 r2 r3 r4 p0 p1 p2 p3 p4
   exact bodyPost_ret (v := .agg #[.int .i64 0,.string ⟨#[]⟩,.int .i64 0,.int .i64 0,.slice none 0 0]) (by simp[results,Tryz.results111,go_sem,y0,y1,y2,y3,y4]) rfl
    (by
     have hov:(false || !bG (jO (aY neg f.op) (n+1) (kf neg g)) left d)=true:=by
      rw[Bool.false_or];show(!bG (iQ (aY neg f.op) [kf neg g,iQ 8 [jO (aY neg f.op) n (kf neg g)]]) left d)=true;rw[WQ.out];simp
     rw[hov]
     exact dh.zero (rb:=0) (left':=left-1) ((HW.out.trans hc1).trans' hcE fun x hx h=>absurd (show x=rb from h) (by have:=rP.out;omega)) (BB.dV hb1 hcE (fun h=>nH h.symm)) (by omega) (by omega))
  ·have HL1:=hid (show 1<=left/\1<=d by have:=HT1.out;unfold eu at this;simp at this;omega)
   have HT2:=hid (fun (V:World) (hV:BB V bb (left-1) false)=>take_any bb (left-1) (d-1) false V hV (by omega) (by omega));obtain⟨t2,ht2⟩:∃t2,eu (left-1) false (d-1)=t2:=⟨_,rfl⟩;rw[ht2]at HT2 WQ;have WX:=hid ht2;clear ht2;cases t2
   rotate_left
   ·go_wp2_with (first|(go_at_call 110;(with_reducible refine HT.out.mono ?_);rintro e w1 ⟨rfl,hc1,hb1⟩)|(go_at_call 110;(with_reducible refine(HT2.out _ hb1).mono ?_);rintro e w2 ⟨rfl,hc2,hb2⟩;have fH:=(dW.out.dV hc1 nH).dV hc2 nH;obtain⟨r0,r1,r2,r3,r4,rl⟩:=fH.cells;have p0:=fH.free 0;have p1:=fH.free 1;have p2:=fH.free 2;have p3:=fH.free 3;have p4:=fH.free 4))
    refine aJ fun WE dZ=>?_;have iM:OB WE rb 0 ⟨#[]⟩ 0 0 none 0 0:=by rw[dZ];exact bf fH
    have hcE:aH (fun x=>x=rb) w2 WE:=by rw[dZ];exact aN _ _ _ _ _ _ _
    obtain⟨y0,y1,y2,y3,y4,yl⟩:=iM.cells;clear dZ r0 r1 r2 r3 r4 p0 p1 p2 p3 p4
    exact bodyPost_ret (v := .agg #[.int .i64 0,.string ⟨#[]⟩,.int .i64 0,.int .i64 0,.slice none 0 0]) (by simp[results,Tryz.results111,go_sem,y0,y1,y2,y3,y4]) rfl
     (by
      have hov:(false || !bG (jO (aY neg f.op) (n+1) (kf neg g)) left d)=true:=by
       rw[Bool.false_or];show(!bG (iQ (aY neg f.op) [kf neg g,iQ 8 [jO (aY neg f.op) n (kf neg g)]]) left d)=true;rw[WQ.out];simp
      rw[hov]
      exact dh.zero (rb:=0) (left':=left-1-1) (((HW.out.trans hc1).trans hc2).trans' hcE fun x hx h=>absurd (show x=rb from h) (by have:=rP.out;omega)) (BB.dV hb2 hcE (fun h=>nH h.symm)) (by omega) (by have:=HL1.out;omega))
   ·go_upto_region 5 with(first|(go_at_call 110;(with_reducible refine HT.out.mono ?_);rintro e w1 ⟨rfl,hc1,hb1⟩)|(go_at_call 110;(with_reducible refine(HT2.out _ hb1).mono ?_);rintro e w2 ⟨rfl,hc2,hb2⟩))
    have HC2:=hid ((HW.out.trans hc1).trans hc2);have Ei:=hid ((dW.out.dV hc1 nH).dV hc2 nH);have HB2:=hid (show BB w2 bb (left-2) false by have:=hb2;rwa [show left-1-1=left-2 by omega]at this);obtain⟨q1,q2,c0,Un,Uo,SK,c4,q3⟩:=HH.out.keep (HC2.out.keeps fun k _ hk hv=>HD.out k hk hv);clear hc1 hc2 hb1 hb2 q3 Un Uo SK b1 HT HT2;obtain⟨ob,hob⟩:∃ob,ob=w2.heap.size:=⟨_,rfl⟩;have PD:=hid hob;clear hob;go_upto_region 6 with(first|(go_at_call 112;(with_reducible refine(MX f.op _).mono ?_);rintro e w9 ⟨rfl,Nh⟩;rw[Nh];clear Nh))
    have hob:=PD.out;rw[<-hob];refine aI fun W6 Tf=>?_;have HC6:=hid (show aH (fun x=>x=bb) w W6 by rw[Tf];exact HC2.out.alloc _);have WM:=hid (show OB W6 ob (oU f.op) ⟨#[]⟩ 0 0 none 0 0 by rw[Tf];exact at_new _ _ _ hob);have HR6:=hid (show OB W6 rb 0 ⟨#[]⟩ 0 0 none 0 0 by rw[Tf];exact Ei.out.alloc _);have GV:=hid (show BB W6 bb (left-2) false by rw[Tf];exact(aQ _ _ _ (lt_of_block HB2.out)).trans HB2.out);have hrob:rb<ob:=by rw[hob];exact lt_of_block Ei.out
    have hwob:w.heap.size<ob:=by have:=rP.out;omega
    clear Tf hob q1 q2 c0 c4;obtain⟨x0,x1,x2,x3,x4,xl⟩:=WM.out.cells;have y0:=WM.out.free 0
    rename_i K8 hK8 K7 hK7
    refine jT K8 (List.range' 49 5) (fun us W'=>aH (fun x=>x=bb) w W'/\OB W' ob (aY neg f.op) ⟨#[]⟩ 0 0 none 0 0/\BB W' bb (left-2) false/\OB W' rb 0 ⟨#[]⟩ 0 0 none 0 0) ?_ ?_
    rotate_left
    ·intro gU
     have lq:=hid gU;clear gU hK8;cases neg
     ·go_wp2_with fail
      refine aP lq.out ⟨HC6.out,WM.out,GV.out,HR6.out⟩ ?_
      kernel_rfl
     ·go_wp2_with (first|(go_at_call 113;refine(MR _ _).mono ?_;rintro e w9 ⟨rfl,Nh⟩;rw[Nh];clear Nh))
      have hcs:aH (fun x=>x=ob) W6 (W6.setCell ⟨ob,0,none⟩ (.int .i64 (sK (oU f.op)))):=(aH.refl (fun x=>x=ob) W6).set ⟨ob,0,none⟩ _ fun _=>rfl;refine aP lq.out ⟨HC6.out.trans' hcs fun x hx h=>absurd (show x=ob from h) (by omega),?_,GV.out.dV hcs (by omega),HR6.out.dV hcs (by omega)⟩ ?_
      ·unfold OB
       rw[aC WM.out];rfl
      ·kernel_rfl
    ·rintro us3 W8 ⟨hc8,ho8,hb8,hr8⟩
     apply hK8;simp only[jH,List.range',List.range'_succ,Act.put,List.setIfInBounds_toArray,List.set_cons_zero,List.set_cons_succ];clear hK8 hK7 K8 K7 x0 x1 x2 x3 x4 xl y0;have HC8:=hid hc8;have HO8:=hid ho8;have wV:=hid hb8;have HR8:=hid hr8;have Ti:=HH.out.keep (hc8.keeps fun k _ hk hv=>HD.out k hk hv);have hargs:=Ti.args;rw[hf]at hargs;obtain⟨b1',o1,A1,c1,g',rfl,hx,hg⟩:=hargs.get (k:=0) (by simp);obtain rfl:g=g':=by have:=hx.out;simpa using this
     rw[Nat.zero_mul,Nat.add_zero]at hg;have HL2:=hid (show 2<=left/\2<=d by have:=WX.out;unfold eu at this;simp at this;omega);have HC:=hid (ih D b1' o1 A1 c1 neg false (left-2) (d-1) W8 hg HD.out hb8 (fun _=>by have:=HL2.out;omega) (by have:=HL2.out;omega) (by omega) (by have:=HL2.out;omega) (by omega));obtain⟨q1,q2,c0,Un,Uo,SK,c4,q3⟩:=Ti;have hlen:f.args.length=1:=by rw[hf];rfl
     rw[hlen]at c4;have HLEN:=hid hlen;clear hc8 ho8 hb8 hr8 hargs hx hg q3 Un Uo SK c0 hlen;go_upto_region 9 with(first|(go_at_call 73;(with_reducible refine HC.out.mono ?_);intro e w9 hs9;obtain⟨G7,g9,A9,c9,l9,rfl,XV,wo,hl9,hm9,qdn⟩:=hs9.out;clear hs9))
     refine aI fun W9 zq=>?_;have qaH:aH (fun x=>x=bb) w9 W9:=by rw[zq];exact(aH.refl _ w9).alloc _
     have qd1:=hid (show OB W9 w9.heap.size g9.op g9.name g9.val g9.bound A9 g9.args.length c9 by rw[zq];exact at_new _ _ _ rfl);have qfj:BB W9 bb l9 (false || !bG (kf neg g) (left-2) (d-1)):=by rw[zq];exact(aQ _ _ _ (lt_of_block wo)).trans wo
     have qfy:bb<w9.heap.size:=lt_of_block wo;have HC9:=hid ((HC8.out.trans G7).trans qaH);have HO9:=hid ((HO8.out.dV G7 (by omega)).dV qaH (by omega));have HR9:=hid ((HR8.out.dV G7 (by omega)).dV qaH (by omega));have HA9:=hid (show bP W9 (Nw W8.heap.size W9) g9.args A9 c9 from XV.nw (V:=fun _=>False) (by rw[zq];exact(aH.refl _ w9).alloc _) fun _ h=>h.elim);have qdq:W9.heap.size=w9.heap.size+1:=by rw[zq];simp
     have Ti:=HH.out.keep (HC9.out.keeps fun k _ hk hv=>HD.out k hk hv);have HC:=hid (ihn D b o (some ⟨b1',o1,none⟩) c neg (false || !bG (kf neg g) (left-2) (d-1)) l9 (d-2) W9 Ti HD.out qfj (fun h=>(qdn h).2.2) hm9 (by omega) (by have:=HL2.out;omega) (by omega));obtain⟨b12,qaF⟩:∃b12,b12=w9.heap.size:=⟨_,rfl⟩;rw[<-qaF]at qd1 qdq⊢;have hl12:ob<b12:=by rw[qaF];exact lt_of_block (HO8.out.dV G7 (by omega))
     have qeG:=hid qdn;have HLL9:=hid hl9;have hwn:IntKind.i64.wrap (((n+1:Nat):Int)-1)=(n:Int):=by rw[show((n+1:Nat):Int)-1=(n:Int)by omega];exact IntWalk.i64_in _ (by omega)
     have hlw8:w.heap.size<=W8.heap.size:=HC8.out.size;have hlW8:ob<W8.heap.size:=lt_of_block HO8.out;have hW8b:W8.heap.size<=b12:=by rw[qaF];exact G7.size
     clear zq G7 XV wo hl9 hm9 qdn qaH qfj Ti qaF q1 q2 c4 qfy;go_upto_region 10 with(first|(go_at_call 111;(with_reducible refine HC.out.mono ?_);intro e w10 hs10;obtain⟨QB,g10,A10,c10,l10,rfl,XU,qdj,hl10,hm10,qbO⟩:=hs10.out;clear hs10))
     trace "R10"
     refine aI fun G6 UJ=>?_;have I8:aH (fun x=>x=bb) w10 G6:=by rw[UJ];exact(aH.refl _ w10).alloc _
     have Wq:=hid (show OB G6 w10.heap.size g10.op g10.name g10.val g10.bound A10 g10.args.length c10 by rw[UJ];exact at_new _ _ _ rfl);have HC10:=hid ((HC9.out.trans QB).trans I8);have qcq:=hid ((HO9.out.dV QB (by omega)).dV I8 (by omega));have jW:=hid ((HR9.out.dV QB (by omega)).dV I8 (by omega));have qd2:=hid ((qd1.out.dV QB (by omega)).dV I8 (by omega));have JJ:=hid (show BB G6 bb l10 ((false || !bG (kf neg g) (left-2) (d-1)) || !bG (jO (aY neg f.op) n (kf neg g)) l9 (d-2))by rw[UJ];exact(aQ _ _ _ (lt_of_block qdj)).trans qdj);have qbK:∀x,x=bb->x<W8.heap.size:=fun x h=>by omega
     have HA9':=hid ((HA9.out.nw QB qbK).nw I8 qbK);have HA10:=hid (show bP G6 (Nw W9.heap.size G6) g10.args A10 c10 from XU.nw (V:=fun _=>False) (by rw[UJ];exact(aH.refl _ w10).alloc _) fun _ h=>h.elim);have Yc:G6.heap.size=w10.heap.size+1:=by rw[UJ];simp
     have qfw:W9.heap.size<=w10.heap.size:=QB.size;obtain⟨b13,XY⟩:∃b13,b13=w10.heap.size:=⟨_,rfl⟩;rw[<-XY]at Wq Yc qfw⊢;have qbu:=hid Yc;have qah:=hid qdq;clear UJ QB I8 qdj XU XY Yc qdq;obtain⟨x0,x1,x2,x3,x4,xl⟩:=qd2.out.cells;obtain⟨z0,z1,z2,z3,z4,zl⟩:=Wq.out.cells;obtain⟨u0,u1,u2,u3,u4,ul⟩:=qcq.out.cells;have v4:=qcq.out.free 4;go_upto_region 11 with(fail)
     refine aI fun Zu XR=>?_
     have qbN:OB (G6.setCell ⟨ob,4,none⟩ (.slice (some ⟨G6.heap.size+1,0,none⟩) 2 2)) ob (aY neg f.op) ⟨#[]⟩ 0 0 (some ⟨G6.heap.size+1,0,none⟩) 2 2:=by
      unfold OB;rw[aC qcq.out];rfl
     have qfB:OB Zu ob (aY neg f.op) ⟨#[]⟩ 0 0 (some ⟨G6.heap.size+1,0,none⟩) 2 2:=by
      rw[XR];exact(qbN.alloc _).alloc _
     have hcs:aH (fun x=>x=ob) G6 Zu:=by
      rw[XR];exact(((aH.refl (fun x=>x=ob) G6).set ⟨ob,4,none⟩ _ fun _=>rfl).alloc _).alloc _
     have hn1:Zu.heap[G6.heap.size]?=some (.cells #[.int .i64 g10.op,.string g10.name,.int .i64 g10.val,.int .i64 g10.bound,.slice A10 g10.args.length c10] 24 (0,0)):=by
      rw[XR,aQ _ _ _ (by simp),at_new _ _ _ (by simp)]
     have hn2:Zu.heap[G6.heap.size+1]?=some (.cells #[.int .i64 g9.op,.string g9.name,.int .i64 g9.val,.int .i64 g9.bound,.slice A9 g9.args.length c9,.int .i64 8,.string ⟨#[]⟩,.int .i64 0,.int .i64 0,.slice (some ⟨G6.heap.size,0,none⟩) 1 1] 24 (0,0)):=by
      rw[XR,at_new _ _ _ (by simp)]
     have hobW:∀x,x=ob->x<W8.heap.size:=fun x h=>by omega
     have XV:=HA9'.out.nw hcs hobW;have XU:=(HA10.out.nw hcs fun x h=>by have:=qah.out;have:x=ob:=h;omega).base (base':=W8.heap.size) (by have:=qah.out;omega)
     have qbP:bP Zu (Nw W8.heap.size Zu) [g10] (some ⟨G6.heap.size,0,none⟩) 1:=bP.lit (sl := [(A10,c10)]) hn1 rfl rfl (by have:=qbu.out;have:=qah.out;omega) rfl (by omega) fun i hi=>by
      obtain rfl:i=0:=by simpa using hi
      exact XU
     have Z9:=hid (show bP Zu (Nw W8.heap.size Zu) [g9,iQ 8 [g10]] (some ⟨G6.heap.size+1,0,none⟩) 2 from bP.lit (sl := [(A9,c9),(some ⟨G6.heap.size,0,none⟩,1)]) hn2 rfl rfl (by have:=qbu.out;have:=qah.out;omega) rfl (by omega) fun i hi=>by
      match i,hi with
      | 0,_=>exact XV
      | 1,_=>exact qbP
      | i+2,hi=>exact absurd hi (by simp))
     have HC11:=hid (HC10.out.trans' hcs fun x hx h=>absurd (show x=ob from h) (by omega));have HB11:=hid (JJ.out.dV hcs (by omega));have qeF:=hid qbO;have hrb8:rb<W8.heap.size:=by omega
     have PG:=hid (jW.out.dV hcs (by omega));clear XR hcs hn1 hn2 XV XU qbP qbN qbO x0 x1 x2 x3 x4 xl z0 z1 z2 z3 z4 zl u0 u1 u2 u3 u4 v4;obtain⟨u0,u1,u2,u3,u4,ul'⟩:=qfB.cells;obtain⟨r0,r1,r2,r3,r4,rl⟩:=PG.out.cells;have p0:=PG.out.free 0;have p1:=PG.out.free 1;have p2:=PG.out.free 2;have p3:=PG.out.free 3;have p4:=PG.out.free 4;go_wp2_with fail
     refine aJ fun WE dZ=>?_;have iM:OB WE rb (aY neg f.op) ⟨#[]⟩ 0 0 (some ⟨G6.heap.size+1,0,none⟩) 2 2:=by rw[dZ];exact bf PG.out
     have hcE:aH (fun x=>x=rb) Zu WE:=by rw[dZ];exact aN _ _ _ _ _ _ _
     obtain⟨y0,y1,y2,y3,y4,yl⟩:=iM.cells;clear dZ r0 r1 r2 r3 r4 p0 p1 p2 p3 p4 u0 u1 u2 u3 u4
     have hfin:dh bb (jO (aY neg f.op) (n+1) (kf neg g)) left (false || !bG (jO (aY neg f.op) (n+1) (kf neg g)) left d) w (.returned (.agg #[.int .i64 (aY neg f.op),.string ⟨#[]⟩,.int .i64 0,.int .i64 0,.slice (some ⟨G6.heap.size+1,0,none⟩) 2 2])) WE:=by
      have hov:(false || !bG (jO (aY neg f.op) (n+1) (kf neg g)) left d)=((!bG (kf neg g) (left-2) (d-1)) || !bG (jO (aY neg f.op) n (kf neg g)) (left-2-(kf neg g).size) (d-2)):=by
       rw[Bool.false_or];show(!bG (iQ (aY neg f.op) [kf neg g,iQ 8 [jO (aY neg f.op) n (kf neg g)]]) left d)=_;rw[WQ.out];rfl
      have qfE:(((false || !bG (kf neg g) (left-2) (d-1)) || !bG (jO (aY neg f.op) n (kf neg g)) l9 (d-2)))=((!bG (kf neg g) (left-2) (d-1)) || !bG (jO (aY neg f.op) n (kf neg g)) (left-2-(kf neg g).size) (d-2)):=by
       rw[Bool.false_or];cases hq:bG (kf neg g) (left-2) (d-1)
       ·rfl
       ·rw[(qeG.out (by rw[hq];rfl)).2.1]
      rw[hov]
      have qfk:BB WE bb l10 ((!bG (kf neg g) (left-2) (d-1)) || !bG (jO (aY neg f.op) n (kf neg g)) (left-2-(kf neg g).size) (d-2)):=by
       rw[<-qfE];exact HB11.out.dV hcE (fun h=>nH h.symm)
      refine⟨HC11.out.trans' hcE fun x hx h=>absurd (show x=rb from h) (by have:=rP.out;omega),_,iQ (aY neg f.op) [g9,iQ 8 [g10]],l10,rfl,⟨_,2,rfl,(Z9.out.nw hcE fun x h=>by have:x=rb:=h;omega).base hlw8⟩,qfk,by have:=HLL9.out;omega,hm10,fun h=>?_⟩;rw[<-qfE]at h
      have h9:(false || !bG (kf neg g) (left-2) (d-1))=false:=by
       cases hq:(false || !bG (kf neg g) (left-2) (d-1))
       ·rfl
       ·rw[hq]at h;cases h
      obtain⟨e1,e2,e3⟩:=qeG.out h9;obtain⟨e4,e5,e6⟩:=qeF.out h;refine⟨by rw[e1,e4];rfl,?_,e6⟩
      have hs:(jO (aY neg f.op) (n+1) (kf neg g)).size=2+(kf neg g).size+(jO (aY neg f.op) n (kf neg g)).size:=by
       show(iQ (aY neg f.op) [kf neg g,iQ 8 [jO (aY neg f.op) n (kf neg g)]]).size=_;rw[Fm.size_eq];have e8:(iQ 8 [jO (aY neg f.op) n (kf neg g)]).size=1+(jO (aY neg f.op) n (kf neg g)).size:=by rw[Fm.size_eq];simp[iQ,Fm.args,sizes]
       simp only[iQ,Fm.args,sizes]at e8⊢;rw[e8];omega
      rw[hs];omega
     exact bodyPost_ret (v := .agg #[.int .i64 (aY neg f.op),.string ⟨#[]⟩,.int .i64 0,.int .i64 0,.slice (some ⟨G6.heap.size+1,0,none⟩) 2 2]) (by simp[results,Tryz.results111,go_sem,y0,y1,y2,y3,y4]) rfl
      hfin
end Go.Proofs.YtdpbgcmfeajigaaGreatDoor
