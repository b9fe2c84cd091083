/-
  Walk of the builder: bounded.
-/
import Derived.Test.YtdpbgcmfeajigaaGreatDoorA14
set_option linter.unusedSimpArgs false
set_option linter.unusedVariables false
set_option maxHeartbeats 8000000
set_option maxRecDepth 100000
namespace Go.Proofs.YtdpbgcmfeajigaaGreatDoor
open Go.RowKit Go.Shelf
attribute [local go_sem] ak jR nV jQ tK xR
theorem ZO {p:Int}(h r:Fm)(left d:Int):(!bK (kV p [h,kV 8 [r]]) left d)=(((eP left false d || eP (left-1) false (d-1)) || !bK h (left-2) (d-1)) || !bK r (left-2-h.size) (d-2)):=by
 have hs:(kV p [h,kV 8 [r]]).size=2+h.size+r.size:=by
  rw[Fm.size_eq];have e8:(kV 8 [r]).size=1+r.size:=by rw[Fm.size_eq];simp[kV,Fm.args,sizes]
  simp only[kV,Fm.args,sizes]at e8⊢;rw[e8];omega
 have hd:(kV p [h,kV 8 [r]]).depth=1+max h.depth (1+r.depth):=by
  rw[Fm.jr];have e8:(kV 8 [r]).depth=1+r.depth:=by rw[Fm.jr];simp[kV,Fm.args,depths]
  simp only[kV,Fm.args,depths]at e8⊢;rw[e8];omega
 have h1:=Fm.size_eq h;have h2:=Fm.jr h;have h3:=Fm.size_eq r;have h4:=Fm.jr r;unfold bK eP;rw[hs,hd]
 have e1:decide (((2+h.size+r.size:Nat):Int)<=left)=(decide ((h.size:Int)<=left-2)&&decide ((r.size:Int)<=left-2-h.size)):=by
  rw[<-Bool.decide_and];exact decide_eq_decide.2 (by omega)
 have e2:decide (((1+max h.depth (1+r.depth):Nat):Int)<=d)=(decide ((h.depth:Int)<=d-1)&&decide ((r.depth:Int)<=d-2)):=by
  rw[<-Bool.decide_and];exact decide_eq_decide.2 (by omega)
 rw[e1,e2]
 by_cases c1:left-1<0
 ·rw[decide_eq_true c1,decide_eq_false (show¬(h.size:Int)<=left-2 by omega)];simp
 ·by_cases c2:d<1
  ·rw[decide_eq_true c2,decide_eq_false (show¬(h.depth:Int)<=d-1 by omega)];simp
  ·by_cases c3:left-1-1<0
   ·rw[decide_eq_true c3,decide_eq_false (show¬(h.size:Int)<=left-2 by omega)];simp
   ·by_cases c4:d-1<1
    ·rw[decide_eq_true c4,decide_eq_false (show¬(h.depth:Int)<=d-1 by omega)];simp
    ·rw[decide_eq_false c1,decide_eq_false c2,decide_eq_false c3,decide_eq_false c4]
     cases decide ((h.size:Int)<=left-2) <;> cases decide ((r.size:Int)<=left-2-h.size) <;> cases decide ((h.depth:Int)<=d-1) <;> cases decide ((r.depth:Int)<=d-2) <;> rfl
theorem dB.out {bb:Nat}{k:Fm}{left:Int}{ov:Bool}{w w':World}{e:Ending}(h:dB bb k left ov w e w'):aH (λ x=>x=bb) w w'/\∃(g:Fm) (A:Option Addr) (c:Nat) (l:Int),e = .returned (.agg #[.int .i64 g.op,.string g.name,.int .i64 g.val,.int .i64 g.bound,.slice A g.args.length c]) /\
  bZ w' (Nw w.heap.size w') g.args A c/\BB w' bb l ov/\l<=left /\ -1<=l/\(ov=false->g=k/\l=left-k.size/\0<=l):=by
 obtain⟨hc,v,g,l,rfl,⟨A,c,rfl,ha⟩,hr⟩:=h;exact⟨hc,g,A,c,l,rfl,ha,hr⟩
def JW (bb:Nat)(f g:Fm)(n:Nat):Prop:=∀(D:Dom) (b o:Nat) (A:Option Addr) (c:Nat) (neg over:Bool) (left d:Int) (w:World),dU w D b o f A c->(∀k,D k->k≠bb)->BB w bb left over->(over=false->0<=left) -> -1<=left->left<=1000000 -> -1000000<=d->d<=1000000 ->
 Calls Tryz.prog 111 #[.pointer (some ⟨bb,0,none⟩),.pointer (some ⟨b,o,none⟩),.int .i64 (n:Int),.bool neg,.int .i64 d] w (dB bb (oH (cO neg f.op) n (kf neg g)) left (over || !bK (oH (cO neg f.op) n (kf neg g)) left d) w)
theorem Kw (bb:Nat)(f g:Fm)(hf:f.args = [g])(ih:zO bb g):JW bb f g 0:=by
 intro D b o A c neg over left d w h hD hB hl0 hl1 hl2 hd1 hd2;have HH:=hid h;have HB:=hid hB;have hbl:=lt_of_block hB;clear hB h
 go_enter Tryz.func111,Tryz.ntmps111
 go_upto_region 1 with(fail)
 refine aC λ W hW=>?_;have HW:=hid (show aH (λ x=>x=bb) w W by rw[hW];exact(aH.refl _ w).alloc _);have gY:=hid (show OB W w.heap.size 0 ⟨#[]⟩ 0 0 none 0 0 by rw[hW];exact at_new _ _ _ rfl);have hbw:=HB.out.below (show Below w.heap.size w W by rw[hW];go_grown);have Uj:=HH.out.keep (HW.out.keeps λ k _ hk hv=>hD k hk hv);have hsz:W.heap.size=w.heap.size+1:=by rw[hW];simp
 have hargs:=Uj.args;rw[hf]at hargs;obtain⟨b1',o1,A1,c1,g',rfl,hx,hg⟩:=hargs.get (k:=0) (by simp);obtain rfl:g=g':=by have:=hx.out;simpa using this
 rw[Nat.zero_mul,Nat.add_zero]at hg;have HC:=hid (ih D b1' o1 A1 c1 neg over left d W hg hD hbw hl0 hl1 hl2 (by omega) hd2);obtain⟨q1,q2,c0,Vf,Vg,TT,c4,q3⟩:=Uj;have hlen:f.args.length=1:=by rw[hf];rfl
 rw[hlen]at c4;have jI:=hid hsz;clear hW hbw hargs hx q3 hf hlen hsz;go_wp2_with (first|(go_at_call 73;refine HC.out.mono ?_;intro e w5 hs5;have hv5:=hs5.val;obtain⟨g5,A5,c5,rfl⟩:=hv5;have fQ:=gY.out.eu hs5.1 (by omega);obtain⟨r0,r1,r2,r3,r4,rl⟩:=fQ.cells;have p0:=fQ.free 0;have p1:=fQ.free 1;have p2:=fQ.free 2;have p3:=fQ.free 3;have p4:=fQ.free 4))
 refine aK λ WE fD=>?_;have jl:OB WE w.heap.size g5.op g5.name g5.val g5.bound A5 g5.args.length c5:=by rw[fD];exact bF fQ
 have hcE:aH (λ x=>x=w.heap.size) w5 WE:=by rw[fD];exact aN _ _ _ _ _ _ _
 obtain⟨y0,y1,y2,y3,y4,yl⟩:=jl.cells;clear fD r0 r1 r2 r3 r4 p0 p1 p2 p3 p4
 exact bodyPost_ret (v := .agg #[.int .i64 g5.op,.string g5.name,.int .i64 g5.val,.int .i64 g5.bound,.slice A5 g5.args.length c5]) (by simp[results,Tryz.results111,go_sem,y0,y1,y2,y3,y4]) rfl
  (dB.wrap hs5 HW.out (Nat.le_refl _) (by have:=jI.out;omega) hbl hcE)
theorem Kv (bb:Nat)(f g:Fm)(n:Nat)(hf:f.args = [g])(ih:zO bb g)(ihn:JW bb f g n)(hn:n<1000):JW bb f g (n+1):=by
 intro D b o A c neg over left d w h hD hB hl0 hl1 hl2 hd1 hd2;have HH:=hid h;have HD:=hid hD;have HB:=hid hB;have hbl:=lt_of_block hB;have hn0:(((n+1:Nat):Int)==0)=false:=by rw[beq_eq_false_iff_ne];omega
 clear hB h
 go_enter Tryz.func111,Tryz.ntmps111
 go_upto_region 1 with(fail)
 refine aC λ W hW=>?_;have HW:=hid (show aH (λ x=>x=bb) w W by rw[hW];exact(aH.refl _ w).alloc _);have gY:=hid (show OB W w.heap.size 0 ⟨#[]⟩ 0 0 none 0 0 by rw[hW];exact at_new _ _ _ rfl);have aT:=hid (HB.out.below (show Below w.heap.size w W by rw[hW];go_grown));have jI:=hid (show W.heap.size=w.heap.size+1 by rw[hW];simp);clear hW;obtain⟨rb,hrb⟩:∃rb,rb=w.heap.size:=⟨_,rfl⟩;have wI:=hid hrb;have nZ:¬rb=bb:=by omega
 rw[<-hrb]at gY⊢;clear hrb;have b1:=aj aT.out (i:=1) rfl;obtain⟨q1,q2,c0,Vf,Vg,TT,c4,q3⟩:=HH.out.keep (HW.out.keeps λ k _ hk hv=>HD.out k hk hv);clear q3 Vf Vg TT c4 c0;have hwd:=IntWalk.i64_in (d-1) (by omega);have hwd2:=IntWalk.i64_in (d-2) (by omega);cases over
 rotate_left
 ·obtain⟨r0,r1,r2,r3,r4,rl⟩:=gY.out.cells
  have p0:=gY.out.free 0;have p1:=gY.out.free 1;have p2:=gY.out.free 2;have p3:=gY.out.free 3;have p4:=gY.out.free 4;go_wp2_with fail
  refine aK λ WE fD=>?_;have jl:OB WE rb 0 ⟨#[]⟩ 0 0 none 0 0:=by rw[fD];exact bF gY.out
  have hcE:aH (λ x=>x=rb) W WE:=by rw[fD];exact aN _ _ _ _ _ _ _
  obtain⟨y0,y1,y2,y3,y4,yl⟩:=jl.cells;clear fD r0 r1 r2 r3 r4 p0 p1 p2 p3 p4
  exact bodyPost_ret (v := .agg #[.int .i64 0,.string ⟨#[]⟩,.int .i64 0,.int .i64 0,.slice none 0 0]) (by simp[results,Tryz.results111,go_sem,y0,y1,y2,y3,y4]) rfl
   (by rw[Bool.true_or];exact dB.zero (rb:=0) (left':=left) (HW.out.trans' hcE λ x hx h=>absurd (show x=rb from h) (by have:=wI.out;omega)) (BB.eu aT.out hcE (λ h=>nZ h.symm)) (by omega) hl1)
 ·have hl0':=hl0 rfl
  clear hl0;have XV:=hid (ZO (p:=cO neg f.op) (kf neg g) (oH (cO neg f.op) n (kf neg g)) left d);have HT:=hid (take_any bb left d false W aT.out (by omega) (by omega));obtain⟨t1,ht1⟩:∃t1,eP left false d=t1:=⟨_,rfl⟩;rw[ht1]at HT XV;have HT1:=hid ht1;clear ht1;cases t1
  rotate_left
  ·go_wp2_with (first|(go_at_call 110;(with_reducible refine HT.out.mono ?_);rintro e w1 ⟨rfl,hc1,hb1⟩;have fQ:=gY.out.eu hc1 nZ;obtain⟨r0,r1,r2,r3,r4,rl⟩:=fQ.cells;have p0:=fQ.free 0;have p1:=fQ.free 1;have p2:=fQ.free 2;have p3:=fQ.free 3;have p4:=fQ.free 4))
   refine aK λ WE fD=>?_;have jl:OB WE rb 0 ⟨#[]⟩ 0 0 none 0 0:=by rw[fD];exact bF fQ
   have hcE:aH (λ x=>x=rb) w1 WE:=by rw[fD];exact aN _ _ _ _ _ _ _
   obtain⟨y0,y1,y2,y3,y4,yl⟩:=jl.cells;clear fD r0 r1 r2 r3 r4 p0 p1 p2 p3 p4
   exact bodyPost_ret (v := .agg #[.int .i64 0,.string ⟨#[]⟩,.int .i64 0,.int .i64 0,.slice none 0 0]) (by simp[results,Tryz.results111,go_sem,y0,y1,y2,y3,y4]) rfl
    (by
     have hov:(false || !bK (oH (cO neg f.op) (n+1) (kf neg g)) left d)=true:=by
      rw[Bool.false_or];show(!bK (kV (cO neg f.op) [kf neg g,kV 8 [oH (cO neg f.op) n (kf neg g)]]) left d)=true;rw[XV.out];simp
     rw[hov]
     exact dB.zero (rb:=0) (left':=left-1) ((HW.out.trans hc1).trans' hcE λ x hx h=>absurd (show x=rb from h) (by have:=wI.out;omega)) (BB.eu hb1 hcE (λ h=>nZ h.symm)) (by omega) (by omega))
  ·have XK:=hid (show 1<=left/\1<=d by have:=HT1.out;unfold eP at this;simp at this;omega)
   have HT2:=hid (λ (V:World) (hV:BB V bb (left-1) false)=>take_any bb (left-1) (d-1) false V hV (by omega) (by omega));obtain⟨t2,ht2⟩:∃t2,eP (left-1) false (d-1)=t2:=⟨_,rfl⟩;rw[ht2]at HT2 XV;have X5:=hid ht2;clear ht2;cases t2
   rotate_left
   ·go_wp2_with (first|(go_at_call 110;(with_reducible refine HT.out.mono ?_);rintro e w1 ⟨rfl,hc1,hb1⟩)|(go_at_call 110;(with_reducible refine(HT2.out _ hb1).mono ?_);rintro e w2 ⟨rfl,hc2,hb2⟩;have fQ:=(gY.out.eu hc1 nZ).eu hc2 nZ;obtain⟨r0,r1,r2,r3,r4,rl⟩:=fQ.cells;have p0:=fQ.free 0;have p1:=fQ.free 1;have p2:=fQ.free 2;have p3:=fQ.free 3;have p4:=fQ.free 4))
    refine aK λ WE fD=>?_;have jl:OB WE rb 0 ⟨#[]⟩ 0 0 none 0 0:=by rw[fD];exact bF fQ
    have hcE:aH (λ x=>x=rb) w2 WE:=by rw[fD];exact aN _ _ _ _ _ _ _
    obtain⟨y0,y1,y2,y3,y4,yl⟩:=jl.cells;clear fD r0 r1 r2 r3 r4 p0 p1 p2 p3 p4
    exact bodyPost_ret (v := .agg #[.int .i64 0,.string ⟨#[]⟩,.int .i64 0,.int .i64 0,.slice none 0 0]) (by simp[results,Tryz.results111,go_sem,y0,y1,y2,y3,y4]) rfl
     (by
      have hov:(false || !bK (oH (cO neg f.op) (n+1) (kf neg g)) left d)=true:=by
       rw[Bool.false_or];show(!bK (kV (cO neg f.op) [kf neg g,kV 8 [oH (cO neg f.op) n (kf neg g)]]) left d)=true;rw[XV.out];simp
      rw[hov]
      exact dB.zero (rb:=0) (left':=left-1-1) (((HW.out.trans hc1).trans hc2).trans' hcE λ x hx h=>absurd (show x=rb from h) (by have:=wI.out;omega)) (BB.eu hb2 hcE (λ h=>nZ h.symm)) (by omega) (by have:=XK.out;omega))
   ·go_upto_region 5 with(first|(go_at_call 110;(with_reducible refine HT.out.mono ?_);rintro e w1 ⟨rfl,hc1,hb1⟩)|(go_at_call 110;(with_reducible refine(HT2.out _ hb1).mono ?_);rintro e w2 ⟨rfl,hc2,hb2⟩))
    have HC2:=hid ((HW.out.trans hc1).trans hc2);have Dl:=hid ((gY.out.eu hc1 nZ).eu hc2 nZ);have HB2:=hid (show BB w2 bb (left-2) false by have:=hb2;rwa [show left-1-1=left-2 by omega]at this);obtain⟨q1,q2,c0,Vf,Vg,TT,c4,q3⟩:=HH.out.keep (HC2.out.keeps λ k _ hk hv=>HD.out k hk hv);clear hc1 hc2 hb1 hb2 q3 Vf Vg TT b1 HT HT2;obtain⟨ob,hob⟩:∃ob,ob=w2.heap.size:=⟨_,rfl⟩;have HOB:=hid hob;clear hob;go_upto_region 6 with(first|(go_at_call 112;(with_reducible refine(NK f.op _).mono ?_);rintro e w9 ⟨rfl,Az⟩;rw[Az];clear Az))
    have hob:=HOB.out;rw[<-hob];refine aC λ W6 Ui=>?_;have HC6:=hid (show aH (λ x=>x=bb) w W6 by rw[Ui];exact HC2.out.alloc _);have XQ:=hid (show OB W6 ob (FN f.op) ⟨#[]⟩ 0 0 none 0 0 by rw[Ui];exact at_new _ _ _ hob);have HR6:=hid (show OB W6 rb 0 ⟨#[]⟩ 0 0 none 0 0 by rw[Ui];exact Dl.out.alloc _);have Hf:=hid (show BB W6 bb (left-2) false by rw[Ui];exact(aQ _ _ _ (lt_of_block HB2.out)).trans HB2.out);have hrob:rb<ob:=by rw[hob];exact lt_of_block Dl.out
    have hwob:w.heap.size<ob:=by have:=wI.out;omega
    clear Ui hob q1 q2 c0 c4;obtain⟨x0,x1,x2,x3,x4,xl⟩:=XQ.out.cells;have y0:=XQ.out.free 0
    rename_i K8 hK8 K7 hK7
    refine kF K8 (List.range' 49 5) (λ us W'=>aH (λ x=>x=bb) w W'/\OB W' ob (cO neg f.op) ⟨#[]⟩ 0 0 none 0 0/\BB W' bb (left-2) false/\OB W' rb 0 ⟨#[]⟩ 0 0 none 0 0) ?_ ?_
    rotate_left
    ·intro gK
     have kH:=hid gK;clear gK hK8;cases neg
     ·go_wp2_with fail
      refine aO kH.out ⟨HC6.out,XQ.out,Hf.out,HR6.out⟩ ?_
      kernel_rfl
     ·go_wp2_with (first|(go_at_call 113;refine(ND _ _).mono ?_;rintro e w9 ⟨rfl,Az⟩;rw[Az];clear Az))
      have hcs:aH (λ x=>x=ob) W6 (W6.setCell ⟨ob,0,none⟩ (.int .i64 (Ub (FN f.op)))):=(aH.refl (λ x=>x=ob) W6).set ⟨ob,0,none⟩ _ λ _=>rfl;refine aO kH.out ⟨HC6.out.trans' hcs λ x hx h=>absurd (show x=ob from h) (by omega),?_,Hf.out.eu hcs (by omega),HR6.out.eu hcs (by omega)⟩ ?_
      ·unfold OB
       rw[aB XQ.out];rfl
      ·kernel_rfl
    ·rintro us3 W8 ⟨hc8,ho8,hb8,hr8⟩
     apply hK8;simp only[jL,List.range',List.range'_succ,Act.put,List.setIfInBounds_toArray,List.set_cons_zero,List.set_cons_succ];clear hK8 hK7 K8 K7 x0 x1 x2 x3 x4 xl y0;have HC8:=hid hc8;have HO8:=hid ho8;have xJ:=hid hb8;have HR8:=hid hr8;have Uj:=HH.out.keep (hc8.keeps λ k _ hk hv=>HD.out k hk hv);have hargs:=Uj.args;rw[hf]at hargs;obtain⟨b1',o1,A1,c1,g',rfl,hx,hg⟩:=hargs.get (k:=0) (by simp);obtain rfl:g=g':=by have:=hx.out;simpa using this
     rw[Nat.zero_mul,Nat.add_zero]at hg;have HL2:=hid (show 2<=left/\2<=d by have:=X5.out;unfold eP at this;simp at this;omega);have HC:=hid (ih D b1' o1 A1 c1 neg false (left-2) (d-1) W8 hg HD.out hb8 (λ _=>by have:=HL2.out;omega) (by have:=HL2.out;omega) (by omega) (by have:=HL2.out;omega) (by omega));obtain⟨q1,q2,c0,Vf,Vg,TT,c4,q3⟩:=Uj;have hlen:f.args.length=1:=by rw[hf];rfl
     rw[hlen]at c4;have HLEN:=hid hlen;clear hc8 ho8 hb8 hr8 hargs hx hg q3 Vf Vg TT c0 hlen;go_upto_region 9 with(first|(go_at_call 73;(with_reducible refine HC.out.mono ?_);intro e w9 hs9;obtain⟨Hr,g9,A9,c9,l9,rfl,YS,ni,hl9,hm9,qea⟩:=hs9.out;clear hs9))
     refine aC λ W9 yh=>?_;have qbr:aH (λ x=>x=bb) w9 W9:=by rw[yh];exact(aH.refl _ w9).alloc _
     have qeT:=hid (show OB W9 w9.heap.size g9.op g9.name g9.val g9.bound A9 g9.args.length c9 by rw[yh];exact at_new _ _ _ rfl);have qgd:BB W9 bb l9 (false || !bK (kf neg g) (left-2) (d-1)):=by rw[yh];exact(aQ _ _ _ (lt_of_block ni)).trans ni
     have qgu:bb<w9.heap.size:=lt_of_block ni;have HC9:=hid ((HC8.out.trans Hr).trans qbr);have HO9:=hid ((HO8.out.eu Hr (by omega)).eu qbr (by omega));have HR9:=hid ((HR8.out.eu Hr (by omega)).eu qbr (by omega));have HA9:=hid (show bZ W9 (Nw W8.heap.size W9) g9.args A9 c9 from YS.nw (V := λ _=>False) (by rw[yh];exact(aH.refl _ w9).alloc _) λ _ h=>h.elim);have qef:W9.heap.size=w9.heap.size+1:=by rw[yh];simp
     have Uj:=HH.out.keep (HC9.out.keeps λ k _ hk hv=>HD.out k hk hv);have HC:=hid (ihn D b o (some ⟨b1',o1,none⟩) c neg (false || !bK (kf neg g) (left-2) (d-1)) l9 (d-2) W9 Uj HD.out qgd (λ h=>(qea h).2.2) hm9 (by omega) (by have:=HL2.out;omega) (by omega));obtain⟨b12,qbo⟩:∃b12,b12=w9.heap.size:=⟨_,rfl⟩;rw[<-qbo]at qeT qef⊢;have hl12:ob<b12:=by rw[qbo];exact lt_of_block (HO8.out.eu Hr (by omega))
     have qfz:=hid qea;have HLL9:=hid hl9;have hwn:IntKind.i64.wrap (((n+1:Nat):Int)-1)=(n:Int):=by rw[show((n+1:Nat):Int)-1=(n:Int)by omega];exact IntWalk.i64_in _ (by omega)
     have hlw8:w.heap.size<=W8.heap.size:=HC8.out.size;have hlW8:ob<W8.heap.size:=lt_of_block HO8.out;have hW8b:W8.heap.size<=b12:=by rw[qbo];exact Hr.size
     clear yh Hr YS ni hl9 hm9 qea qbr qgd Uj qbo q1 q2 c4 qgu;go_upto_region 10 with(first|(go_at_call 111;(with_reducible refine HC.out.mono ?_);intro e w10 hs10;obtain⟨Rj,g10,A10,c10,l10,rfl,YR,qd5,hl10,hm10,qcB⟩:=hs10.out;clear hs10))
     trace "R10"
     refine aC λ Hq Vz=>?_;have Jh:aH (λ x=>x=bb) w10 Hq:=by rw[Vz];exact(aH.refl _ w10).alloc _
     have XB:=hid (show OB Hq w10.heap.size g10.op g10.name g10.val g10.bound A10 g10.args.length c10 by rw[Vz];exact at_new _ _ _ rfl);have HC10:=hid ((HC9.out.trans Rj).trans Jh);have qdj:=hid ((HO9.out.eu Rj (by omega)).eu Jh (by omega));have kN:=hid ((HR9.out.eu Rj (by omega)).eu Jh (by omega));have qeU:=hid ((qeT.out.eu Rj (by omega)).eu Jh (by omega));have JY:=hid (show BB Hq bb l10 ((false || !bK (kf neg g) (left-2) (d-1)) || !bK (oH (cO neg f.op) n (kf neg g)) l9 (d-2))by rw[Vz];exact(aQ _ _ _ (lt_of_block qd5)).trans qd5);have qcw:∀x,x=bb->x<W8.heap.size := λ x h=>by omega
     have HA9':=hid ((HA9.out.nw Rj qcw).nw Jh qcw);have HA10:=hid (show bZ Hq (Nw W9.heap.size Hq) g10.args A10 c10 from YR.nw (V := λ _=>False) (by rw[Vz];exact(aH.refl _ w10).alloc _) λ _ h=>h.elim);have Zf:Hq.heap.size=w10.heap.size+1:=by rw[Vz];simp
     have qgs:W9.heap.size<=w10.heap.size:=Rj.size;obtain⟨b13,YU⟩:∃b13,b13=w10.heap.size:=⟨_,rfl⟩;rw[<-YU]at XB Zf qgs⊢;have qck:=hid Zf;have qaX:=hid qef;clear Vz Rj Jh qd5 YR YU Zf qef;obtain⟨x0,x1,x2,x3,x4,xl⟩:=qeU.out.cells;obtain⟨z0,z1,z2,z3,z4,zl⟩:=XB.out.cells;obtain⟨u0,u1,u2,u3,u4,ul⟩:=qdj.out.cells;have v4:=qdj.out.free 4;go_upto_region 11 with(fail)
     refine aC λ W11 YO=>?_
     have qcA:OB (Hq.setCell ⟨ob,4,none⟩ (.slice (some ⟨Hq.heap.size+1,0,none⟩) 2 2)) ob (cO neg f.op) ⟨#[]⟩ 0 0 (some ⟨Hq.heap.size+1,0,none⟩) 2 2:=by
      unfold OB;rw[aB qdj.out];rfl
     have qgx:OB W11 ob (cO neg f.op) ⟨#[]⟩ 0 0 (some ⟨Hq.heap.size+1,0,none⟩) 2 2:=by
      rw[YO];exact(qcA.alloc _).alloc _
     have hcs:aH (λ x=>x=ob) Hq W11:=by
      rw[YO];exact(((aH.refl (λ x=>x=ob) Hq).set ⟨ob,4,none⟩ _ λ _=>rfl).alloc _).alloc _
     have hn1:W11.heap[Hq.heap.size]?=some (.cells #[.int .i64 g10.op,.string g10.name,.int .i64 g10.val,.int .i64 g10.bound,.slice A10 g10.args.length c10] 24 (0,0)):=by
      rw[YO,aQ _ _ _ (by simp),at_new _ _ _ (by simp)]
     have hn2:W11.heap[Hq.heap.size+1]?=some (.cells #[.int .i64 g9.op,.string g9.name,.int .i64 g9.val,.int .i64 g9.bound,.slice A9 g9.args.length c9,.int .i64 8,.string ⟨#[]⟩,.int .i64 0,.int .i64 0,.slice (some ⟨Hq.heap.size,0,none⟩) 1 1] 24 (0,0)):=by
      rw[YO,at_new _ _ _ (by simp)]
     have hobW:∀x,x=ob->x<W8.heap.size := λ x h=>by omega
     have YS:=HA9'.out.nw hcs hobW;have YR:=(HA10.out.nw hcs λ x h=>by have:=qaX.out;have:x=ob:=h;omega).base (base':=W8.heap.size) (by have:=qaX.out;omega)
     have qcC:bZ W11 (Nw W8.heap.size W11) [g10] (some ⟨Hq.heap.size,0,none⟩) 1:=bZ.lit (sl := [(A10,c10)]) hn1 rfl rfl (by have:=qck.out;have:=qaX.out;omega) rfl (by omega) λ i hi=>by
      obtain rfl:i=0:=by simpa using hi
      exact YR
     have XU:=hid (show bZ W11 (Nw W8.heap.size W11) [g9,kV 8 [g10]] (some ⟨Hq.heap.size+1,0,none⟩) 2 from bZ.lit (sl := [(A9,c9),(some ⟨Hq.heap.size,0,none⟩,1)]) hn2 rfl rfl (by have:=qck.out;have:=qaX.out;omega) rfl (by omega) λ i hi=>by
      match i,hi with
      | 0,_=>exact YS
      | 1,_=>exact qcC
      | i+2,hi=>exact absurd hi (by simp))
     have HC11:=hid (HC10.out.trans' hcs λ x hx h=>absurd (show x=ob from h) (by omega));have HB11:=hid (JY.out.eu hcs (by omega));have qfy:=hid qcB;have hrb8:rb<W8.heap.size:=by omega
     have Qx:=hid (kN.out.eu hcs (by omega));clear YO hcs hn1 hn2 YS YR qcC qcA qcB x0 x1 x2 x3 x4 xl z0 z1 z2 z3 z4 zl u0 u1 u2 u3 u4 v4;obtain⟨u0,u1,u2,u3,u4,ul'⟩:=qgx.cells;obtain⟨r0,r1,r2,r3,r4,rl⟩:=Qx.out.cells;have p0:=Qx.out.free 0;have p1:=Qx.out.free 1;have p2:=Qx.out.free 2;have p3:=Qx.out.free 3;have p4:=Qx.out.free 4;go_wp2_with fail
     refine aK λ WE fD=>?_;have jl:OB WE rb (cO neg f.op) ⟨#[]⟩ 0 0 (some ⟨Hq.heap.size+1,0,none⟩) 2 2:=by rw[fD];exact bF Qx.out
     have hcE:aH (λ x=>x=rb) W11 WE:=by rw[fD];exact aN _ _ _ _ _ _ _
     obtain⟨y0,y1,y2,y3,y4,yl⟩:=jl.cells;clear fD r0 r1 r2 r3 r4 p0 p1 p2 p3 p4 u0 u1 u2 u3 u4
     have hfin:dB bb (oH (cO neg f.op) (n+1) (kf neg g)) left (false || !bK (oH (cO neg f.op) (n+1) (kf neg g)) left d) w (.returned (.agg #[.int .i64 (cO neg f.op),.string ⟨#[]⟩,.int .i64 0,.int .i64 0,.slice (some ⟨Hq.heap.size+1,0,none⟩) 2 2])) WE:=by
      have hov:(false || !bK (oH (cO neg f.op) (n+1) (kf neg g)) left d)=((!bK (kf neg g) (left-2) (d-1)) || !bK (oH (cO neg f.op) n (kf neg g)) (left-2-(kf neg g).size) (d-2)):=by
       rw[Bool.false_or];show(!bK (kV (cO neg f.op) [kf neg g,kV 8 [oH (cO neg f.op) n (kf neg g)]]) left d)=_;rw[XV.out];rfl
      have qgz:(((false || !bK (kf neg g) (left-2) (d-1)) || !bK (oH (cO neg f.op) n (kf neg g)) l9 (d-2)))=((!bK (kf neg g) (left-2) (d-1)) || !bK (oH (cO neg f.op) n (kf neg g)) (left-2-(kf neg g).size) (d-2)):=by
       rw[Bool.false_or];cases hq:bK (kf neg g) (left-2) (d-1)
       ·rfl
       ·rw[(qfz.out (by rw[hq];rfl)).2.1]
      rw[hov]
      have qgf:BB WE bb l10 ((!bK (kf neg g) (left-2) (d-1)) || !bK (oH (cO neg f.op) n (kf neg g)) (left-2-(kf neg g).size) (d-2)):=by
       rw[<-qgz];exact HB11.out.eu hcE (λ h=>nZ h.symm)
      refine⟨HC11.out.trans' hcE λ x hx h=>absurd (show x=rb from h) (by have:=wI.out;omega),_,kV (cO neg f.op) [g9,kV 8 [g10]],l10,rfl,⟨_,2,rfl,(XU.out.nw hcE λ x h=>by have:x=rb:=h;omega).base hlw8⟩,qgf,by have:=HLL9.out;omega,hm10,λ h=>?_⟩;rw[<-qgz]at h
      have h9:(false || !bK (kf neg g) (left-2) (d-1))=false:=by
       cases hq:(false || !bK (kf neg g) (left-2) (d-1))
       ·rfl
       ·rw[hq]at h;cases h
      obtain⟨e1,e2,e3⟩:=qfz.out h9;obtain⟨e4,e5,e6⟩:=qfy.out h;refine⟨by rw[e1,e4];rfl,?_,e6⟩
      have hs:(oH (cO neg f.op) (n+1) (kf neg g)).size=2+(kf neg g).size+(oH (cO neg f.op) n (kf neg g)).size:=by
       show(kV (cO neg f.op) [kf neg g,kV 8 [oH (cO neg f.op) n (kf neg g)]]).size=_;rw[Fm.size_eq];have e8:(kV 8 [oH (cO neg f.op) n (kf neg g)]).size=1+(oH (cO neg f.op) n (kf neg g)).size:=by rw[Fm.size_eq];simp[kV,Fm.args,sizes]
       simp only[kV,Fm.args,sizes]at e8⊢;rw[e8];omega
      rw[hs];omega
     exact bodyPost_ret (v := .agg #[.int .i64 (cO neg f.op),.string ⟨#[]⟩,.int .i64 0,.int .i64 0,.slice (some ⟨Hq.heap.size+1,0,none⟩) 2 2]) (by simp[results,Tryz.results111,go_sem,y0,y1,y2,y3,y4]) rfl
      hfin
end Go.Proofs.YtdpbgcmfeajigaaGreatDoor
