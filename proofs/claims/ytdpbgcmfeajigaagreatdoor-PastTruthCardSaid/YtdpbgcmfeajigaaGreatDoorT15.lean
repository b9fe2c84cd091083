/-
  Walk of the builder: bounded.
-/
import Derived.Test.YtdpbgcmfeajigaaGreatDoorT14
set_option linter.unusedSimpArgs false
set_option linter.unusedVariables false
set_option maxHeartbeats 8000000
set_option maxRecDepth 100000
namespace Go.Proofs.YtdpbgcmfeajigaaGreatDoor
open Go.RowKit Go.Shelf
attribute [local go_sem] ak jM nM jL sV xJ
theorem YO {p:Int}(h r:Fm)(left d:Int):(!bM (kK p [h,kK 8 [r]]) left d)=(((eP left false d || eP (left-1) false (d-1)) || !bM h (left-2) (d-1)) || !bM r (left-2-h.size) (d-2)):=by
 have hs:(kK p [h,kK 8 [r]]).size=2+h.size+r.size:=by
  rw[Fm.size_eq];have e8:(kK 8 [r]).size=1+r.size:=by rw[Fm.size_eq];simp[kK,Fm.args,sizes]
  simp only[kK,Fm.args,sizes]at e8⊢;rw[e8];omega
 have hd:(kK p [h,kK 8 [r]]).depth=1+max h.depth (1+r.depth):=by
  rw[Fm.kG];have e8:(kK 8 [r]).depth=1+r.depth:=by rw[Fm.kG];simp[kK,Fm.args,depths]
  simp only[kK,Fm.args,depths]at e8⊢;rw[e8];omega
 have h1:=Fm.size_eq h;have h2:=Fm.kG h;have h3:=Fm.size_eq r;have h4:=Fm.kG r;unfold bM eP;rw[hs,hd]
 have e1:decide (((2+h.size+r.size:Nat):Int)<=left)=(decide ((h.size:Int)<=left-2)&&decide ((r.size:Int)<=left-2-h.size)):=by
  rw[<-Bool.decide_and];exact decide_eq_decide.2 (by omega)
 have e2:decide (((1+max h.depth (1+r.depth):Nat):Int)<=d)=(decide ((h.depth:Int)<=d-1)&&decide ((r.depth:Int)<=d-2)):=by
  rw[<-Bool.decide_and];exact decide_eq_decide.2 (by omega)
 rw[e1,e2]
 by_cases c1:left-1<0
 ·rw[decide_eq_true c1,decide_eq_false (show¬(h.size:Int)<=left-2 by omega)];simp
 ·by_cases c2:d<1
  ·rw[decide_eq_true c2,decide_eq_false (show¬(h.depth:Int)<=d-1 by omega)];simp
  ·by_cases c3:left-1-1<0
   ·rw[decide_eq_true c3,decide_eq_false (show¬(h.size:Int)<=left-2 by omega)];simp
   ·by_cases c4:d-1<1
    ·rw[decide_eq_true c4,decide_eq_false (show¬(h.depth:Int)<=d-1 by omega)];simp
    ·rw[decide_eq_false c1,decide_eq_false c2,decide_eq_false c3,decide_eq_false c4]
     cases decide ((h.size:Int)<=left-2) <;> cases decide ((r.size:Int)<=left-2-h.size) <;> cases decide ((h.depth:Int)<=d-1) <;> cases decide ((r.depth:Int)<=d-2) <;> rfl
theorem dB.out {bb:Nat}{k:Fm}{left:Int}{ov:Bool}{w w':World}{e:Ending}(h:dB bb k left ov w e w'):aH (fun x=>x=bb) w w'/\∃(g:Fm) (A:Option Addr) (c:Nat) (l:Int),e = .returned (.agg #[.int .i64 g.op,.string g.name,.int .i64 g.val,.int .i64 g.bound,.slice A g.args.length c]) /\
  bV w' (Nw w.heap.size w') g.args A c/\BB w' bb l ov/\l<=left /\ -1<=l/\(ov=false->g=k/\l=left-k.size/\0<=l):=by
 obtain⟨hc,v,g,l,rfl,⟨A,c,rfl,ha⟩,hr⟩:=h;exact⟨hc,g,A,c,l,rfl,ha,hr⟩
def JM (bb:Nat)(f g:Fm)(n:Nat):Prop:=∀(D:Dom) (b o:Nat) (A:Option Addr) (c:Nat) (neg over:Bool) (left d:Int) (w:World),dR w D b o f A c->(∀k,D k->k≠bb)->BB w bb left over->(over=false->0<=left) -> -1<=left->left<=1000000 -> -1000000<=d->d<=1000000 ->
 Calls Tryz.prog 111 #[.pointer (some ⟨bb,0,none⟩),.pointer (some ⟨b,o,none⟩),.int .i64 (n:Int),.bool neg,.int .i64 d] w (dB bb (oz (cZ neg f.op) n (kf neg g)) left (over || !bM (oz (cZ neg f.op) n (kf neg g)) left d) w)
theorem J9 (bb:Nat)(f g:Fm)(hf:f.args = [g])(ih:zK bb g):JM bb f g 0:=by
 intro D b o A c neg over left d w h hD hB hl0 hl1 hl2 hd1 hd2;have HH:=hid h;have HB:=hid hB;have hbl:=lt_of_block hB;clear hB h
 go_enter Tryz.func111,Tryz.ntmps111
 go_upto_region 1 with(fail)
 refine aF fun W hW=>?_;have HW:=hid (show aH (fun x=>x=bb) w W by rw[hW];exact(aH.refl _ w).alloc _);have dZ:=hid (show OB W w.heap.size 0 ⟨#[]⟩ 0 0 none 0 0 by rw[hW];exact at_new _ _ _ rfl);have hbw:=HB.out.below (show Below w.heap.size w W by rw[hW];go_grown);have Tv:=HH.out.keep (HW.out.keeps fun k _ hk hv=>hD k hk hv);have hsz:W.heap.size=w.heap.size+1:=by rw[hW];simp
 have hargs:=Tv.args;rw[hf]at hargs;obtain⟨b1',o1,A1,c1,g',rfl,hx,hg⟩:=hargs.get (k:=0) (by simp);obtain rfl:g=g':=by have:=hx.out;simpa using this
 rw[Nat.zero_mul,Nat.add_zero]at hg;have HC:=hid (ih D b1' o1 A1 c1 neg over left d W hg hD hbw hl0 hl1 hl2 (by omega) hd2);obtain⟨q1,q2,c0,Us,Ut,SV,c4,q3⟩:=Tv;have hlen:f.args.length=1:=by rw[hf];rfl
 rw[hlen]at c4;have jE:=hid hsz;clear hW hbw hargs hx q3 hf hlen hsz;go_wp2_with (first|(go_at_call 73;refine HC.out.mono ?_;intro e w5 hs5;have hv5:=hs5.val;obtain⟨g5,A5,c5,rfl⟩:=hv5;have gq:=dZ.out.dX hs5.1 (by omega);obtain⟨r0,r1,r2,r3,r4,rl⟩:=gq.cells;have p0:=gq.free 0;have p1:=gq.free 1;have p2:=gq.free 2;have p3:=gq.free 3;have p4:=gq.free 4))
 refine aK fun WE fJ=>?_;have ji:OB WE w.heap.size g5.op g5.name g5.val g5.bound A5 g5.args.length c5:=by rw[fJ];exact bF gq
 have hcE:aH (fun x=>x=w.heap.size) w5 WE:=by rw[fJ];exact aN _ _ _ _ _ _ _
 obtain⟨y0,y1,y2,y3,y4,yl⟩:=ji.cells;clear fJ r0 r1 r2 r3 r4 p0 p1 p2 p3 p4
 exact bodyPost_ret (v := .agg #[.int .i64 g5.op,.string g5.name,.int .i64 g5.val,.int .i64 g5.bound,.slice A5 g5.args.length c5]) (by simp[results,Tryz.results111,go_sem,y0,y1,y2,y3,y4]) rfl
  (dB.wrap hs5 HW.out (Nat.le_refl _) (by have:=jE.out;omega) hbl hcE)
theorem J8 (bb:Nat)(f g:Fm)(n:Nat)(hf:f.args = [g])(ih:zK bb g)(ihn:JM bb f g n)(hn:n<1000):JM bb f g (n+1):=by
 intro D b o A c neg over left d w h hD hB hl0 hl1 hl2 hd1 hd2;have HH:=hid h;have HD:=hid hD;have HB:=hid hB;have hbl:=lt_of_block hB;have hn0:(((n+1:Nat):Int)==0)=false:=by rw[beq_eq_false_iff_ne];omega
 clear hB h
 go_enter Tryz.func111,Tryz.ntmps111
 go_upto_region 1 with(fail)
 refine aF fun W hW=>?_;have HW:=hid (show aH (fun x=>x=bb) w W by rw[hW];exact(aH.refl _ w).alloc _);have dZ:=hid (show OB W w.heap.size 0 ⟨#[]⟩ 0 0 none 0 0 by rw[hW];exact at_new _ _ _ rfl);have aT:=hid (HB.out.below (show Below w.heap.size w W by rw[hW];go_grown));have jE:=hid (show W.heap.size=w.heap.size+1 by rw[hW];simp);clear hW;obtain⟨rb,hrb⟩:∃rb,rb=w.heap.size:=⟨_,rfl⟩;have sJ:=hid hrb;have nT:¬rb=bb:=by omega
 rw[<-hrb]at dZ⊢;clear hrb;have b1:=aj aT.out (i:=1) rfl;obtain⟨q1,q2,c0,Us,Ut,SV,c4,q3⟩:=HH.out.keep (HW.out.keeps fun k _ hk hv=>HD.out k hk hv);clear q3 Us Ut SV c4 c0;have hwd:=IntWalk.i64_in (d-1) (by omega);have hwd2:=IntWalk.i64_in (d-2) (by omega);cases over
 rotate_left
 ·obtain⟨r0,r1,r2,r3,r4,rl⟩:=dZ.out.cells
  have p0:=dZ.out.free 0;have p1:=dZ.out.free 1;have p2:=dZ.out.free 2;have p3:=dZ.out.free 3;have p4:=dZ.out.free 4;go_wp2_with fail
  refine aK fun WE fJ=>?_;have ji:OB WE rb 0 ⟨#[]⟩ 0 0 none 0 0:=by rw[fJ];exact bF dZ.out
  have hcE:aH (fun x=>x=rb) W WE:=by rw[fJ];exact aN _ _ _ _ _ _ _
  obtain⟨y0,y1,y2,y3,y4,yl⟩:=ji.cells;clear fJ r0 r1 r2 r3 r4 p0 p1 p2 p3 p4
  exact bodyPost_ret (v := .agg #[.int .i64 0,.string ⟨#[]⟩,.int .i64 0,.int .i64 0,.slice none 0 0]) (by simp[results,Tryz.results111,go_sem,y0,y1,y2,y3,y4]) rfl
   (by rw[Bool.true_or];exact dB.zero (rb:=0) (left':=left) (HW.out.trans' hcE fun x hx h=>absurd (show x=rb from h) (by have:=sJ.out;omega)) (BB.dX aT.out hcE (fun h=>nT h.symm)) (by omega) hl1)
 ·have hl0':=hl0 rfl
  clear hl0;have WV:=hid (YO (p:=cZ neg f.op) (kf neg g) (oz (cZ neg f.op) n (kf neg g)) left d);have HT:=hid (take_any bb left d false W aT.out (by omega) (by omega));obtain⟨t1,ht1⟩:∃t1,eP left false d=t1:=⟨_,rfl⟩;rw[ht1]at HT WV;have HT1:=hid ht1;clear ht1;cases t1
  rotate_left
  ·go_wp2_with (first|(go_at_call 110;(with_reducible refine HT.out.mono ?_);rintro e w1 ⟨rfl,hc1,hb1⟩;have gq:=dZ.out.dX hc1 nT;obtain⟨r0,r1,r2,r3,r4,rl⟩:=gq.cells;have p0:=gq.free 0;have p1:=gq.free 1;have p2:=gq.free 2;have p3:=gq.free 3;have p4:=gq.free 4))
   refine aK fun WE fJ=>?_;have ji:OB WE rb 0 ⟨#[]⟩ 0 0 none 0 0:=by rw[fJ];exact bF gq
   have hcE:aH (fun x=>x=rb) w1 WE:=by rw[fJ];exact aN _ _ _ _ _ _ _
   obtain⟨y0,y1,y2,y3,y4,yl⟩:=ji.cells;clear fJ r0 r1 r2 r3 r4 p0 p1 p2 p3 p4
   exact bodyPost_ret (v := .agg #[.int .i64 0,.string ⟨#[]⟩,.int .i64 0,.int .i64 0,.slice none 0 0]) (by simp[results,Tryz.results111,go_sem,y0,y1,y2,y3,y4]) rfl
    (by
     have hov:(false || !bM (oz (cZ neg f.op) (n+1) (kf neg g)) left d)=true:=by
      rw[Bool.false_or];show(!bM (kK (cZ neg f.op) [kf neg g,kK 8 [oz (cZ neg f.op) n (kf neg g)]]) left d)=true;rw[WV.out];simp
     rw[hov]
     exact dB.zero (rb:=0) (left':=left-1) ((HW.out.trans hc1).trans' hcE fun x hx h=>absurd (show x=rb from h) (by have:=sJ.out;omega)) (BB.dX hb1 hcE (fun h=>nT h.symm)) (by omega) (by omega))
  ·have HL1:=hid (show 1<=left/\1<=d by have:=HT1.out;unfold eP at this;simp at this;omega)
   have HT2:=hid (fun (V:World) (hV:BB V bb (left-1) false)=>take_any bb (left-1) (d-1) false V hV (by omega) (by omega));obtain⟨t2,ht2⟩:∃t2,eP (left-1) false (d-1)=t2:=⟨_,rfl⟩;rw[ht2]at HT2 WV;have Xc:=hid ht2;clear ht2;cases t2
   rotate_left
   ·go_wp2_with (first|(go_at_call 110;(with_reducible refine HT.out.mono ?_);rintro e w1 ⟨rfl,hc1,hb1⟩)|(go_at_call 110;(with_reducible refine(HT2.out _ hb1).mono ?_);rintro e w2 ⟨rfl,hc2,hb2⟩;have gq:=(dZ.out.dX hc1 nT).dX hc2 nT;obtain⟨r0,r1,r2,r3,r4,rl⟩:=gq.cells;have p0:=gq.free 0;have p1:=gq.free 1;have p2:=gq.free 2;have p3:=gq.free 3;have p4:=gq.free 4))
    refine aK fun WE fJ=>?_;have ji:OB WE rb 0 ⟨#[]⟩ 0 0 none 0 0:=by rw[fJ];exact bF gq
    have hcE:aH (fun x=>x=rb) w2 WE:=by rw[fJ];exact aN _ _ _ _ _ _ _
    obtain⟨y0,y1,y2,y3,y4,yl⟩:=ji.cells;clear fJ r0 r1 r2 r3 r4 p0 p1 p2 p3 p4
    exact bodyPost_ret (v := .agg #[.int .i64 0,.string ⟨#[]⟩,.int .i64 0,.int .i64 0,.slice none 0 0]) (by simp[results,Tryz.results111,go_sem,y0,y1,y2,y3,y4]) rfl
     (by
      have hov:(false || !bM (oz (cZ neg f.op) (n+1) (kf neg g)) left d)=true:=by
       rw[Bool.false_or];show(!bM (kK (cZ neg f.op) [kf neg g,kK 8 [oz (cZ neg f.op) n (kf neg g)]]) left d)=true;rw[WV.out];simp
      rw[hov]
      exact dB.zero (rb:=0) (left':=left-1-1) (((HW.out.trans hc1).trans hc2).trans' hcE fun x hx h=>absurd (show x=rb from h) (by have:=sJ.out;omega)) (BB.dX hb2 hcE (fun h=>nT h.symm)) (by omega) (by have:=HL1.out;omega))
   ·go_upto_region 5 with(first|(go_at_call 110;(with_reducible refine HT.out.mono ?_);rintro e w1 ⟨rfl,hc1,hb1⟩)|(go_at_call 110;(with_reducible refine(HT2.out _ hb1).mono ?_);rintro e w2 ⟨rfl,hc2,hb2⟩))
    have HC2:=hid ((HW.out.trans hc1).trans hc2);have Ey:=hid ((dZ.out.dX hc1 nT).dX hc2 nT);have HB2:=hid (show BB w2 bb (left-2) false by have:=hb2;rwa [show left-1-1=left-2 by omega]at this);obtain⟨q1,q2,c0,Us,Ut,SV,c4,q3⟩:=HH.out.keep (HC2.out.keeps fun k _ hk hv=>HD.out k hk hv);clear hc1 hc2 hb1 hb2 q3 Us Ut SV b1 HT HT2;obtain⟨ob,hob⟩:∃ob,ob=w2.heap.size:=⟨_,rfl⟩;have PN:=hid hob;clear hob;go_upto_region 6 with(first|(go_at_call 112;(with_reducible refine(Nc f.op _).mono ?_);rintro e w9 ⟨rfl,Ai⟩;rw[Ai];clear Ai))
    have hob:=PN.out;rw[<-hob];refine aF fun W6 Tt=>?_;have HC6:=hid (show aH (fun x=>x=bb) w W6 by rw[Tt];exact HC2.out.alloc _);have WU:=hid (show OB W6 ob (FP f.op) ⟨#[]⟩ 0 0 none 0 0 by rw[Tt];exact at_new _ _ _ hob);have HR6:=hid (show OB W6 rb 0 ⟨#[]⟩ 0 0 none 0 0 by rw[Tt];exact Ey.out.alloc _);have Bl:=hid (show BB W6 bb (left-2) false by rw[Tt];exact(aQ _ _ _ (lt_of_block HB2.out)).trans HB2.out);have hrob:rb<ob:=by rw[hob];exact lt_of_block Ey.out
    have hwob:w.heap.size<ob:=by have:=sJ.out;omega
    clear Tt hob q1 q2 c0 c4;obtain⟨x0,x1,x2,x3,x4,xl⟩:=WU.out.cells;have y0:=WU.out.free 0
    rename_i K8 hK8 K7 hK7
    refine jY K8 (List.range' 49 5) (fun us W'=>aH (fun x=>x=bb) w W'/\OB W' ob (cZ neg f.op) ⟨#[]⟩ 0 0 none 0 0/\BB W' bb (left-2) false/\OB W' rb 0 ⟨#[]⟩ 0 0 none 0 0) ?_ ?_
    rotate_left
    ·intro gX
     have lH:=hid gX;clear gX hK8;cases neg
     ·go_wp2_with fail
      refine aP lH.out ⟨HC6.out,WU.out,Bl.out,HR6.out⟩ ?_
      kernel_rfl
     ·go_wp2_with (first|(go_at_call 113;refine(MX _ _).mono ?_;rintro e w9 ⟨rfl,Ai⟩;rw[Ai];clear Ai))
      have hcs:aH (fun x=>x=ob) W6 (W6.setCell ⟨ob,0,none⟩ (.int .i64 (Td (FP f.op)))):=(aH.refl (fun x=>x=ob) W6).set ⟨ob,0,none⟩ _ fun _=>rfl;refine aP lH.out ⟨HC6.out.trans' hcs fun x hx h=>absurd (show x=ob from h) (by omega),?_,Bl.out.dX hcs (by omega),HR6.out.dX hcs (by omega)⟩ ?_
      ·unfold OB
       rw[aB WU.out];rfl
      ·kernel_rfl
    ·rintro us3 W8 ⟨hc8,ho8,hb8,hr8⟩
     apply hK8;simp only[jH,List.range',List.range'_succ,Act.put,List.setIfInBounds_toArray,List.set_cons_zero,List.set_cons_succ];clear hK8 hK7 K8 K7 x0 x1 x2 x3 x4 xl y0;have HC8:=hid hc8;have HO8:=hid ho8;have xC:=hid hb8;have HR8:=hid hr8;have Tv:=HH.out.keep (hc8.keeps fun k _ hk hv=>HD.out k hk hv);have hargs:=Tv.args;rw[hf]at hargs;obtain⟨b1',o1,A1,c1,g',rfl,hx,hg⟩:=hargs.get (k:=0) (by simp);obtain rfl:g=g':=by have:=hx.out;simpa using this
     rw[Nat.zero_mul,Nat.add_zero]at hg;have HL2:=hid (show 2<=left/\2<=d by have:=Xc.out;unfold eP at this;simp at this;omega);have HC:=hid (ih D b1' o1 A1 c1 neg false (left-2) (d-1) W8 hg HD.out hb8 (fun _=>by have:=HL2.out;omega) (by have:=HL2.out;omega) (by omega) (by have:=HL2.out;omega) (by omega));obtain⟨q1,q2,c0,Us,Ut,SV,c4,q3⟩:=Tv;have hlen:f.args.length=1:=by rw[hf];rfl
     rw[hlen]at c4;have HLEN:=hid hlen;clear hc8 ho8 hb8 hr8 hargs hx hg q3 Us Ut SV c0 hlen;go_upto_region 9 with(first|(go_at_call 73;(with_reducible refine HC.out.mono ?_);intro e w9 hs9;obtain⟨He,g9,A9,c9,l9,rfl,X0,pU,hl9,hm9,qdc⟩:=hs9.out;clear hs9))
     refine aF fun W9 zJ=>?_;have qaw:aH (fun x=>x=bb) w9 W9:=by rw[zJ];exact(aH.refl _ w9).alloc _
     have qdU:=hid (show OB W9 w9.heap.size g9.op g9.name g9.val g9.bound A9 g9.args.length c9 by rw[zJ];exact at_new _ _ _ rfl);have qe8:BB W9 bb l9 (false || !bM (kf neg g) (left-2) (d-1)):=by rw[zJ];exact(aQ _ _ _ (lt_of_block pU)).trans pU
     have qfo:bb<w9.heap.size:=lt_of_block pU;have HC9:=hid ((HC8.out.trans He).trans qaw);have HO9:=hid ((HO8.out.dX He (by omega)).dX qaw (by omega));have HR9:=hid ((HR8.out.dX He (by omega)).dX qaw (by omega));have HA9:=hid (show bV W9 (Nw W8.heap.size W9) g9.args A9 c9 from X0.nw (V:=fun _=>False) (by rw[zJ];exact(aH.refl _ w9).alloc _) fun _ h=>h.elim);have qdf:W9.heap.size=w9.heap.size+1:=by rw[zJ];simp
     have Tv:=HH.out.keep (HC9.out.keeps fun k _ hk hv=>HD.out k hk hv);have HC:=hid (ihn D b o (some ⟨b1',o1,none⟩) c neg (false || !bM (kf neg g) (left-2) (d-1)) l9 (d-2) W9 Tv HD.out qe8 (fun h=>(qdc h).2.2) hm9 (by omega) (by have:=HL2.out;omega) (by omega));obtain⟨b12,qat⟩:∃b12,b12=w9.heap.size:=⟨_,rfl⟩;rw[<-qat]at qdU qdf⊢;have hl12:ob<b12:=by rw[qat];exact lt_of_block (HO8.out.dX He (by omega))
     have qew:=hid qdc;have HLL9:=hid hl9;have hwn:IntKind.i64.wrap (((n+1:Nat):Int)-1)=(n:Int):=by rw[show((n+1:Nat):Int)-1=(n:Int)by omega];exact IntWalk.i64_in _ (by omega)
     have hlw8:w.heap.size<=W8.heap.size:=HC8.out.size;have hlW8:ob<W8.heap.size:=lt_of_block HO8.out;have hW8b:W8.heap.size<=b12:=by rw[qat];exact He.size
     clear zJ He X0 pU hl9 hm9 qdc qaw qe8 Tv qat q1 q2 c4 qfo;go_upto_region 10 with(first|(go_at_call 111;(with_reducible refine HC.out.mono ?_);intro e w10 hs10;obtain⟨QB,g10,A10,c10,l10,rfl,XZ,qcZ,hl10,hm10,qbF⟩:=hs10.out;clear hs10))
     trace "R10"
     refine aF fun G9 UK=>?_;have Jf:aH (fun x=>x=bb) w10 G9:=by rw[UK];exact(aH.refl _ w10).alloc _
     have Wx:=hid (show OB G9 w10.heap.size g10.op g10.name g10.val g10.bound A10 g10.args.length c10 by rw[UK];exact at_new _ _ _ rfl);have HC10:=hid ((HC9.out.trans QB).trans Jf);have qce:=hid ((HO9.out.dX QB (by omega)).dX Jf (by omega));have kC:=hid ((HR9.out.dX QB (by omega)).dX Jf (by omega));have qdV:=hid ((qdU.out.dX QB (by omega)).dX Jf (by omega));have JQ:=hid (show BB G9 bb l10 ((false || !bM (kf neg g) (left-2) (d-1)) || !bM (oz (cZ neg f.op) n (kf neg g)) l9 (d-2))by rw[UK];exact(aQ _ _ _ (lt_of_block qcZ)).trans qcZ);have qbB:∀x,x=bb->x<W8.heap.size:=fun x h=>by omega
     have HA9':=hid ((HA9.out.nw QB qbB).nw Jf qbB);have HA10:=hid (show bV G9 (Nw W9.heap.size G9) g10.args A10 c10 from XZ.nw (V:=fun _=>False) (by rw[UK];exact(aH.refl _ w10).alloc _) fun _ h=>h.elim);have Yf:G9.heap.size=w10.heap.size+1:=by rw[UK];simp
     have qfm:W9.heap.size<=w10.heap.size:=QB.size;obtain⟨b13,X4⟩:∃b13,b13=w10.heap.size:=⟨_,rfl⟩;rw[<-X4]at Wx Yf qfm⊢;have qbo:=hid Yf;have ZW:=hid qdf;clear UK QB Jf qcZ XZ X4 Yf qdf;obtain⟨x0,x1,x2,x3,x4,xl⟩:=qdV.out.cells;obtain⟨z0,z1,z2,z3,z4,zl⟩:=Wx.out.cells;obtain⟨u0,u1,u2,u3,u4,ul⟩:=qce.out.cells;have v4:=qce.out.free 4;go_upto_region 11 with(fail)
     refine aF fun Zp XV=>?_
     have qbE:OB (G9.setCell ⟨ob,4,none⟩ (.slice (some ⟨G9.heap.size+1,0,none⟩) 2 2)) ob (cZ neg f.op) ⟨#[]⟩ 0 0 (some ⟨G9.heap.size+1,0,none⟩) 2 2:=by
      unfold OB;rw[aB qce.out];rfl
     have qfr:OB Zp ob (cZ neg f.op) ⟨#[]⟩ 0 0 (some ⟨G9.heap.size+1,0,none⟩) 2 2:=by
      rw[XV];exact(qbE.alloc _).alloc _
     have hcs:aH (fun x=>x=ob) G9 Zp:=by
      rw[XV];exact(((aH.refl (fun x=>x=ob) G9).set ⟨ob,4,none⟩ _ fun _=>rfl).alloc _).alloc _
     have hn1:Zp.heap[G9.heap.size]?=some (.cells #[.int .i64 g10.op,.string g10.name,.int .i64 g10.val,.int .i64 g10.bound,.slice A10 g10.args.length c10] 24 (0,0)):=by
      rw[XV,aQ _ _ _ (by simp),at_new _ _ _ (by simp)]
     have hn2:Zp.heap[G9.heap.size+1]?=some (.cells #[.int .i64 g9.op,.string g9.name,.int .i64 g9.val,.int .i64 g9.bound,.slice A9 g9.args.length c9,.int .i64 8,.string ⟨#[]⟩,.int .i64 0,.int .i64 0,.slice (some ⟨G9.heap.size,0,none⟩) 1 1] 24 (0,0)):=by
      rw[XV,at_new _ _ _ (by simp)]
     have hobW:∀x,x=ob->x<W8.heap.size:=fun x h=>by omega
     have X0:=HA9'.out.nw hcs hobW;have XZ:=(HA10.out.nw hcs fun x h=>by have:=ZW.out;have:x=ob:=h;omega).base (base':=W8.heap.size) (by have:=ZW.out;omega)
     have qbG:bV Zp (Nw W8.heap.size Zp) [g10] (some ⟨G9.heap.size,0,none⟩) 1:=bV.lit (sl := [(A10,c10)]) hn1 rfl rfl (by have:=qbo.out;have:=ZW.out;omega) rfl (by omega) fun i hi=>by
      obtain rfl:i=0:=by simpa using hi
      exact XZ
     have ZO:=hid (show bV Zp (Nw W8.heap.size Zp) [g9,kK 8 [g10]] (some ⟨G9.heap.size+1,0,none⟩) 2 from bV.lit (sl := [(A9,c9),(some ⟨G9.heap.size,0,none⟩,1)]) hn2 rfl rfl (by have:=qbo.out;have:=ZW.out;omega) rfl (by omega) fun i hi=>by
      match i,hi with
      | 0,_=>exact X0
      | 1,_=>exact qbG
      | i+2,hi=>exact absurd hi (by simp))
     have HC11:=hid (HC10.out.trans' hcs fun x hx h=>absurd (show x=ob from h) (by omega));have HB11:=hid (JQ.out.dX hcs (by omega));have qev:=hid qbF;have hrb8:rb<W8.heap.size:=by omega
     have PU:=hid (kC.out.dX hcs (by omega));clear XV hcs hn1 hn2 X0 XZ qbG qbE qbF x0 x1 x2 x3 x4 xl z0 z1 z2 z3 z4 zl u0 u1 u2 u3 u4 v4;obtain⟨u0,u1,u2,u3,u4,ul'⟩:=qfr.cells;obtain⟨r0,r1,r2,r3,r4,rl⟩:=PU.out.cells;have p0:=PU.out.free 0;have p1:=PU.out.free 1;have p2:=PU.out.free 2;have p3:=PU.out.free 3;have p4:=PU.out.free 4;go_wp2_with fail
     refine aK fun WE fJ=>?_;have ji:OB WE rb (cZ neg f.op) ⟨#[]⟩ 0 0 (some ⟨G9.heap.size+1,0,none⟩) 2 2:=by rw[fJ];exact bF PU.out
     have hcE:aH (fun x=>x=rb) Zp WE:=by rw[fJ];exact aN _ _ _ _ _ _ _
     obtain⟨y0,y1,y2,y3,y4,yl⟩:=ji.cells;clear fJ r0 r1 r2 r3 r4 p0 p1 p2 p3 p4 u0 u1 u2 u3 u4
     have hfin:dB bb (oz (cZ neg f.op) (n+1) (kf neg g)) left (false || !bM (oz (cZ neg f.op) (n+1) (kf neg g)) left d) w (.returned (.agg #[.int .i64 (cZ neg f.op),.string ⟨#[]⟩,.int .i64 0,.int .i64 0,.slice (some ⟨G9.heap.size+1,0,none⟩) 2 2])) WE:=by
      have hov:(false || !bM (oz (cZ neg f.op) (n+1) (kf neg g)) left d)=((!bM (kf neg g) (left-2) (d-1)) || !bM (oz (cZ neg f.op) n (kf neg g)) (left-2-(kf neg g).size) (d-2)):=by
       rw[Bool.false_or];show(!bM (kK (cZ neg f.op) [kf neg g,kK 8 [oz (cZ neg f.op) n (kf neg g)]]) left d)=_;rw[WV.out];rfl
      have qft:(((false || !bM (kf neg g) (left-2) (d-1)) || !bM (oz (cZ neg f.op) n (kf neg g)) l9 (d-2)))=((!bM (kf neg g) (left-2) (d-1)) || !bM (oz (cZ neg f.op) n (kf neg g)) (left-2-(kf neg g).size) (d-2)):=by
       rw[Bool.false_or];cases hq:bM (kf neg g) (left-2) (d-1)
       ·rfl
       ·rw[(qew.out (by rw[hq];rfl)).2.1]
      rw[hov]
      have qfa:BB WE bb l10 ((!bM (kf neg g) (left-2) (d-1)) || !bM (oz (cZ neg f.op) n (kf neg g)) (left-2-(kf neg g).size) (d-2)):=by
       rw[<-qft];exact HB11.out.dX hcE (fun h=>nT h.symm)
      refine⟨HC11.out.trans' hcE fun x hx h=>absurd (show x=rb from h) (by have:=sJ.out;omega),_,kK (cZ neg f.op) [g9,kK 8 [g10]],l10,rfl,⟨_,2,rfl,(ZO.out.nw hcE fun x h=>by have:x=rb:=h;omega).base hlw8⟩,qfa,by have:=HLL9.out;omega,hm10,fun h=>?_⟩;rw[<-qft]at h
      have h9:(false || !bM (kf neg g) (left-2) (d-1))=false:=by
       cases hq:(false || !bM (kf neg g) (left-2) (d-1))
       ·rfl
       ·rw[hq]at h;cases h
      obtain⟨e1,e2,e3⟩:=qew.out h9;obtain⟨e4,e5,e6⟩:=qev.out h;refine⟨by rw[e1,e4];rfl,?_,e6⟩
      have hs:(oz (cZ neg f.op) (n+1) (kf neg g)).size=2+(kf neg g).size+(oz (cZ neg f.op) n (kf neg g)).size:=by
       show(kK (cZ neg f.op) [kf neg g,kK 8 [oz (cZ neg f.op) n (kf neg g)]]).size=_;rw[Fm.size_eq];have e8:(kK 8 [oz (cZ neg f.op) n (kf neg g)]).size=1+(oz (cZ neg f.op) n (kf neg g)).size:=by rw[Fm.size_eq];simp[kK,Fm.args,sizes]
       simp only[kK,Fm.args,sizes]at e8⊢;rw[e8];omega
      rw[hs];omega
     exact bodyPost_ret (v := .agg #[.int .i64 (cZ neg f.op),.string ⟨#[]⟩,.int .i64 0,.int .i64 0,.slice (some ⟨G9.heap.size+1,0,none⟩) 2 2]) (by simp[results,Tryz.results111,go_sem,y0,y1,y2,y3,y4]) rfl
      hfin
end Go.Proofs.YtdpbgcmfeajigaaGreatDoor
