/-
  Walk of canon.
-/
import Derived.Test.YtdpbgcmfeajigaaGreatDoorT18
set_option linter.unusedSimpArgs false
set_option linter.unusedVariables false
set_option maxHeartbeats 8000000
set_option maxRecDepth 100000
namespace Go.Proofs.YtdpbgcmfeajigaaGreatDoor
open Go.RowKit Go.Shelf
attribute [local go_sem] ak jM run_store_func
theorem Qe (f:Fm)(ih:∀g,g∈f.args->JO g)(ins:Bool)(hbare:allI bY ins f)(hz:f.size<=1000000):JO f:=by
 intro D b o A c w h;have hmf:∀(fn:Fn) (first cap:Array Value) (w:World),(Instr.makeFunc fn first cap).run Tryz.prog w = .ok (.func fn first cap) w:=fun _ _ _ _=>rfl;have ecl:∀args W,(callFunc 152 args).run Tryz.prog W = .ok (.enter 152 args) W:=enters_of Tryz.func152 (by kernel_rfl) rfl;have HH:=hid h.old;have Dh:=hid (xM f);have hsz:=Fm.size_eq f;have hal:=jg f.args;obtain⟨h1,h2⟩:=dS.1 hbare;obtain⟨k1,k2,k3,k4⟩:=lM h1;obtain⟨s1,s2,s3,s4,s5,s6,s7,s8⟩:=jI k2;have L8:=hid (show f.op=8->0<f.args.length from fun e=>by rw[e]at s2;exact s2);have L9:=hid (show f.op=9\/f.op=10->1<f.args.length from fun e=>by rcases e with e|e <;> (rw[e]at s2;exact s2));obtain⟨xs,has⟩:∃xs,xs=f.args.map bU:=⟨_,rfl⟩
 have uw:=hid (show f.args.length=xs.length by rw[has];simp)
 have jE:=hid (show sizes xs<=1000000 by
  have:=qw (g:=bU) (l:=f.args) fun x _=>Du x
  rw[has];omega)
 have pX:=hid (show f.op=5\/f.op=6->∀g,g∈xs->allI bY ins g from fun hop g hg=>by
  rw[has]at hg;obtain⟨x,hx,rfl⟩:=List.mem_map.1 hg
  have hp:(aJ f.op).past=false:=by rcases hop with e|e <;> rw[e] <;> rfl
  have:=h2 x hx;rw[hp,Bool.or_false]at this
  exact Dt x _ this (TG (by have:=gB hx;omega)))
 have HAS:=hid has;have hfl:f.args.length<=1000000:=by omega
 rw[<-has]at Dh;clear has h1 h2 k1 k2 k3 k4 s1 s2 s3 s4 s5 s6 s7 s8 hbare h hsz hal hz
 go_enter Tryz.func125,Tryz.ntmps125
 go_upto_region 1 with(fail)
 refine aF fun W hW=>?_;have HB:=hid (show Below w.heap.size w W by rw[hW];go_grown);have HR:=hid (show OB W w.heap.size 0 ⟨#[]⟩ 0 0 none 0 0 by rw[hW];exact at_new _ _ _ rfl);have yZ:=hid (show W.heap.size=w.heap.size+1 by rw[hW];simp);have HF:=hid (HH.out.keep (Keeps.of_below HB.out fun _ h=>h));have HC:=hid (Qg HF.out.args rfl hfl ih);clear hW ih;obtain⟨q1,q2,p0,p1,p2,p3,p4,q3⟩:=HF.out;clear q3;go_upto_region 2 with(go_at_call 151;refine HC.out.mono ?_;rintro e w2 ⟨A2,rfl,ha2,hb2⟩)
 refine aF fun W3 hW3=>?_;obtain⟨kb,hkb⟩:∃kb,kb=w2.heap.size:=⟨_,rfl⟩;rw[<-hkb];have hkc:W3.cell? ⟨kb,0,none⟩=some (.slice A2 f.args.length f.args.length):=by rw[hW3];exact aj (at_new _ _ _ hkb) (i:=0) rfl
 have hkl:kb<W3.heap.size:=by rw[hW3,hkb];simp
 have Wy:=hid (show Below W.heap.size W W3 by rw[hW3];exact hb2.alloc hb2.size _);have HB3:=hid (HB.out.trans (Wy.out.mono HB.out.size));have oC:=hid (show bV W3 (Nw W.heap.size W3) xs A2 f.args.length from by rw[<-HAS.out]at ha2;exact ha2.nw (V:=fun _=>False) (by rw[hW3];exact(aH.refl _ w2).alloc _) fun _ h=>h.elim);have HR3:=hid (HR.out.below Wy.out);have HF3:=hid (HF.out.keep (Keeps.of_below Wy.out fun k hk=>by have:=yZ.out;omega));have hkw:W.heap.size<=kb:=by rw[hkb];exact hb2.size
 have hkw1:¬w.heap.size=kb:=by have:=yZ.out;omega
 have hkw2:¬kb=w.heap.size:=fun e=>hkw1 e.symm;have hbw:b<w.heap.size:=q1;have hbk:¬b=kb:=by have:=yZ.out;omega
 have hbk2:¬kb=b:=fun e=>hbk e.symm;have hbr:¬b=w.heap.size:=by omega
 have hbr2:¬w.heap.size=b:=fun e=>hbr e.symm;clear hW3 hkb hb2 ha2 HC p0 p1 p2 p3 p4 q1 q2;obtain⟨q1,q2,p0,p1,p2,p3,p4,q3⟩:=HF3.out;obtain⟨r0,r1,r2,r3,r4,rl⟩:=HR3.out.cells;have u0:=HR3.out.free 0;have u1:=HR3.out.free 1;have u2:=HR3.out.free 2;have u3:=HR3.out.free 3;have u4:=HR3.out.free 4;clear q3 q1
 by_cases hop:f.op=5\/f.op=6
 ·rcases hop with e|e
  ·have d5:(f.op==5)=true:=by rw[e];rfl
   have hop:f.op=5\/f.op=6 := .inl e;clear e;have EM:=hid (show bU f=pV f.op xs by rw[Dh];unfold pI;rw[if_pos hop]);have vY:=hid (pX.out hop);have TV:=hid (zf hop vY.out)
   have HJ:=hid (show∀W',aV W3 W'->Calls Tryz.prog 153 #[.int .i64 f.op,.slice A2 f.args.length f.args.length] W' fun e w'=>∃v,e = .returned v/\bI w' (Nw W.heap.size w') v (pV f.op xs)/\Below W3.heap.size W3 w' from fun W' hd=>(Nr (base:=W.heap.size) (oC.out.nw ((aH.refl (fun _=>False) W3).drawn hd) fun _ h=>h.elim) uw.out hop (Nat.le_trans Wy.out.size (hd.below 0).size) jE.out (fun x hx h4=>MG (TV.out x hx) h4) (fun x hx=>⟨_,Fa MC (TV.out x hx)⟩)).mono (by
    rintro e w' ⟨v,rfl,hv,hb⟩
    exact⟨v,rfl,hv,(hd.below _).trans (hb.mono (hd.below 0).size)⟩))
   have aI:=hid (show∀W',Below W3.heap.size W3 W'->W'.cell? ⟨b,o,none⟩=some (.int .i64 f.op)/\W'.cell? ⟨kb,0,none⟩=some (.slice A2 f.args.length f.args.length)from fun W' hb=>⟨(hb.cell (p:=⟨b,o,none⟩) q2).trans p0,(hb.cell (p:=⟨kb,0,none⟩) hkl).trans hkc⟩);clear hop Dh;go_upto_region 6 with(fail)
   go_region_held3 (fun W':World=>W'.cell? ⟨b,o,none⟩=some (.int .i64 f.op)/\W'.cell? ⟨kb,0,none⟩=some (.slice A2 f.args.length f.args.length))
    (first|(with_reducible exact aI.out _ hb5)|(go_keep;done))
    ((go_at_call 153;(with_reducible refine(HJ.out _ (by first|exact aV.refl _|exact(aV.refl _).drew|exact(aV.refl _).drewN _)).mono ?_);rintro e w5 ⟨v,rfl,⟨A5,c5,rfl,UL⟩,hb5⟩;have Zr:=hid UL;have Io:=hid hb5;have Ls:=hid (HR3.out.below hb5);clear UL;obtain⟨z0,z1,z2,z3,z4,zl⟩:=Ls.out.cells;have v0:=Ls.out.free 0;have v1:=Ls.out.free 1;have v2:=Ls.out.free 2;have v3:=Ls.out.free 3;have v4:=Ls.out.free 4))
   all_goals
    refine yM fun W8 uO=>?_;obtain⟨g,hg⟩:∃g,g=pV f.op xs:=⟨_,rfl⟩;rw[<-hg]at uO Zr EM;have hcE:aH (fun x=>x=w.heap.size) w5 W8:=by rw[uO];exact aN _ _ _ _ _ _ _
    have ji:OB W8 w.heap.size g.op g.name g.val g.bound A5 g.args.length c5:=by rw[uO];exact bF Ls.out
    have lT:Below w.heap.size w W8:=(HB3.out.trans (Io.out.mono HB3.out.size)).trans (hcE.below (B:=w.heap.size) (fun x hx h=>by omega) (Nat.le_trans HB3.out.size Io.out.size))
    have hnew:lY (bU f) w (.agg #[.int .i64 g.op,.string g.name,.int .i64 g.val,.int .i64 g.bound,.slice A5 g.args.length c5]) W8:=by
     rw[EM.out];exact⟨lT,A5,c5,rfl,(Zr.out.nw hcE fun x h=>by have:x=w.heap.size:=h;have:=yZ.out;omega).base HB.out.size⟩
    obtain⟨y0,y1,y2,y3,y4,yl⟩:=ji.cells;clear uO hcE ji lT r0 r1 r2 r3 r4 u0 u1 u2 u3 u4 z0 z1 z2 z3 z4 v0 v1 v2 v3 v4 p0 p1 p2 p3 p4 hkc;go_wp2_with fail
    exact bodyPost_ret (v := .agg #[.int .i64 (g.op),.string g.name,.int .i64 (g.val),.int .i64 (g.bound),.slice A5 (g.args.length) (c5)]) (by simp[results,Tryz.results125,go_sem,y0,y1,y2,y3,y4]) rfl ⟨_,rfl,hnew⟩
  ·have d5:(f.op==5)=false:=by rw[e];rfl
   have d6:(f.op==6)=true:=by rw[e];rfl
   have hop:f.op=5\/f.op=6 := .inr e;clear e;have EM:=hid (show bU f=pV f.op xs by rw[Dh];unfold pI;rw[if_pos hop]);have vY:=hid (pX.out hop);have TV:=hid (zf hop vY.out)
   have HJ:=hid (show∀W',aV W3 W'->Calls Tryz.prog 153 #[.int .i64 f.op,.slice A2 f.args.length f.args.length] W' fun e w'=>∃v,e = .returned v/\bI w' (Nw W.heap.size w') v (pV f.op xs)/\Below W3.heap.size W3 w' from fun W' hd=>(Nr (base:=W.heap.size) (oC.out.nw ((aH.refl (fun _=>False) W3).drawn hd) fun _ h=>h.elim) uw.out hop (Nat.le_trans Wy.out.size (hd.below 0).size) jE.out (fun x hx h4=>MG (TV.out x hx) h4) (fun x hx=>⟨_,Fa MC (TV.out x hx)⟩)).mono (by
    rintro e w' ⟨v,rfl,hv,hb⟩
    exact⟨v,rfl,hv,(hd.below _).trans (hb.mono (hd.below 0).size)⟩))
   have aI:=hid (show∀W',Below W3.heap.size W3 W'->W'.cell? ⟨b,o,none⟩=some (.int .i64 f.op)/\W'.cell? ⟨kb,0,none⟩=some (.slice A2 f.args.length f.args.length)from fun W' hb=>⟨(hb.cell (p:=⟨b,o,none⟩) q2).trans p0,(hb.cell (p:=⟨kb,0,none⟩) hkl).trans hkc⟩);clear hop Dh;go_upto_region 6 with(fail)
   go_region_held3 (fun W':World=>W'.cell? ⟨b,o,none⟩=some (.int .i64 f.op)/\W'.cell? ⟨kb,0,none⟩=some (.slice A2 f.args.length f.args.length))
    (first|(with_reducible exact aI.out _ hb5)|(go_keep;done))
    ((go_at_call 153;(with_reducible refine(HJ.out _ (by first|exact aV.refl _|exact(aV.refl _).drew|exact(aV.refl _).drewN _)).mono ?_);rintro e w5 ⟨v,rfl,⟨A5,c5,rfl,UL⟩,hb5⟩;have Zr:=hid UL;have Io:=hid hb5;have Ls:=hid (HR3.out.below hb5);clear UL;obtain⟨z0,z1,z2,z3,z4,zl⟩:=Ls.out.cells;have v0:=Ls.out.free 0;have v1:=Ls.out.free 1;have v2:=Ls.out.free 2;have v3:=Ls.out.free 3;have v4:=Ls.out.free 4))
   all_goals
    refine yM fun W8 uO=>?_;obtain⟨g,hg⟩:∃g,g=pV f.op xs:=⟨_,rfl⟩;rw[<-hg]at uO Zr EM;have hcE:aH (fun x=>x=w.heap.size) w5 W8:=by rw[uO];exact aN _ _ _ _ _ _ _
    have ji:OB W8 w.heap.size g.op g.name g.val g.bound A5 g.args.length c5:=by rw[uO];exact bF Ls.out
    have lT:Below w.heap.size w W8:=(HB3.out.trans (Io.out.mono HB3.out.size)).trans (hcE.below (B:=w.heap.size) (fun x hx h=>by omega) (Nat.le_trans HB3.out.size Io.out.size))
    have hnew:lY (bU f) w (.agg #[.int .i64 g.op,.string g.name,.int .i64 g.val,.int .i64 g.bound,.slice A5 g.args.length c5]) W8:=by
     rw[EM.out];exact⟨lT,A5,c5,rfl,(Zr.out.nw hcE fun x h=>by have:x=w.heap.size:=h;have:=yZ.out;omega).base HB.out.size⟩
    obtain⟨y0,y1,y2,y3,y4,yl⟩:=ji.cells;clear uO hcE ji lT r0 r1 r2 r3 r4 u0 u1 u2 u3 u4 z0 z1 z2 z3 z4 v0 v1 v2 v3 v4 p0 p1 p2 p3 p4 hkc;go_wp2_with fail
    exact bodyPost_ret (v := .agg #[.int .i64 (g.op),.string g.name,.int .i64 (g.val),.int .i64 (g.bound),.slice A5 (g.args.length) (c5)]) (by simp[results,Tryz.results125,go_sem,y0,y1,y2,y3,y4]) rfl ⟨_,rfl,hnew⟩
 ·have d5:(f.op==5)=false:=ay fun e=>hop (.inl e)
  have d6:(f.op==6)=false:=ay fun e=>hop (.inr e);have ZJ:=hid hop;clear hop
  by_cases h8:f.op=8
  ·have d8:(f.op==8)=true:=by rw[h8];rfl
   have hl0:0<f.args.length:=L8.out h8;obtain⟨b2,o2,A8,c8,g0,rfl,HX0,hg0⟩:=oC.out.get (k:=0) (by have:=uw.out;omega);have EU:=hid HX0.out;have HG0:=hid hg0;obtain⟨t1,t2,x0,x1,x2,x3,x4,t3⟩:=hg0;have qcl:=hid t3;simp only[Nat.zero_mul,Nat.add_zero]at x0 x1 x2 x3 x4;clear HX0 t3 t1;have hl1:(0:Int)<f.args.length:=by omega
   cases hc:isC g0
   ·have SB:pI f.op f.name f.val xs = .mk f.op f.name f.val 0 xs:=by
     unfold pI;rw[if_neg ZJ.out,if_neg (by rw[EU.out,hc];exact fun h=>Bool.false_ne_true h.2),if_neg (fun h=>by omega),if_neg (fun h=>by omega)]
    have Pz:=hid (fun k (hk:k=((0:Nat):Int))=>lQ xs (some ⟨b2,o2,none⟩) f.args.length f.args.length kb 0 k W3 oC.out uw.out (by have:=uw.out;omega) hk hkc false (by rw[EU.out,hc]));clear h8 hc;have EM:=hid (show bU f = .mk f.op f.name f.val 0 xs by rw[Dh];exact SB);clear Dh SB;go_upto_region 16 with(go_at_call 152;(with_reducible refine(Pz.out 0 rfl).mono ?_);rintro e w6 ⟨rfl,hw6⟩;rw[hw6];clear hw6)
    go_region_held3 (fun W':World=>W'.cell? ⟨b,o,none⟩=some (.int .i64 f.op)/\W'.cell? ⟨b,o+1,none⟩=some (.string f.name)/\W'.cell? ⟨b,o+2,none⟩=some (.int .i64 f.val)/\W'.cell? ⟨kb,0,none⟩=some (.slice (some ⟨b2,o2,none⟩) f.args.length f.args.length))
     (first|(go_keep;done))
     (fail)
    all_goals
     refine yM fun W8 uO=>?_
     have hcE:aH (fun x=>x=w.heap.size) W3 W8:=by
      rw[uO]
      first|exact aN _ _ _ _ _ _ _|exact(aN _ _ _ _ _ _ _).drew|exact((aH.refl (fun x=>x=w.heap.size) W3).drew).trans (aN _ _ _ _ _ _ _)|exact((aH.refl (fun x=>x=w.heap.size) W3).drewN _).trans (aN _ _ _ _ _ _ _)
     have ji:OB W8 w.heap.size f.op f.name f.val 0 (some ⟨b2,o2,none⟩) f.args.length f.args.length:=by
      rw[uO]
      first|exact bF HR3.out|exact bF (OB.below HR3.out ((Below.refl _ _).drew))|exact bF (OB.below HR3.out ((Below.refl _ _).drewN _))
     have lT:Below w.heap.size w W8:=HB3.out.trans (hcE.below (B:=w.heap.size) (fun x hx h=>by omega) HB3.out.size)
     have hnew:lY (bU f) w (.agg #[.int .i64 f.op,.string f.name,.int .i64 f.val,.int .i64 0,.slice (some ⟨b2,o2,none⟩) f.args.length f.args.length]) W8:=by
      rw[EM.out];exact⟨lT,(some ⟨b2,o2,none⟩),f.args.length,by rw[uw.out];rfl,(oC.out.nw hcE fun x h=>by have:x=w.heap.size:=h;have:=yZ.out;omega).base HB.out.size⟩
     obtain⟨y0,y1,y2,y3,y4,yl⟩:=ji.cells;clear uO hcE ji lT r0 r1 r2 r3 r4 u0 u1 u2 u3 u4 p0 p1 p2 p3 p4 hkc;go_wp2_with fail
     exact bodyPost_ret (v := .agg #[.int .i64 (f.op),.string f.name,.int .i64 (f.val),.int .i64 (0),.slice (some ⟨b2,o2,none⟩) (f.args.length) (f.args.length)]) (by simp[results,Tryz.results125,go_sem,y0,y1,y2,y3,y4]) rfl ⟨_,rfl,hnew⟩
   ·have zN:pI f.op f.name f.val xs=g0:=by
     unfold pI;rw[if_neg ZJ.out,if_pos (by rw[EU.out,hc];exact⟨h8,rfl⟩)];exact EU.out
    have PV:=qcl;have Pz:=hid (fun k (hk:k=((0:Nat):Int))=>lQ xs (some ⟨b2,o2,none⟩) f.args.length f.args.length kb 0 k W3 oC.out uw.out (by have:=uw.out;omega) hk hkc true (by rw[EU.out,hc]));clear h8 hc;have EM:=hid (show bU f=g0 by rw[Dh];exact zN);clear Dh zN;go_wp2_with (go_at_call 152;(with_reducible refine(Pz.out 0 rfl).mono ?_);rintro e w6 ⟨rfl,hw6⟩;rw[hw6];clear hw6)
    refine aK fun WE fJ=>?_;have hcE:aH (fun x=>x=w.heap.size) W3 WE:=by rw[fJ];exact aN _ _ _ _ _ _ _
    have ji:OB WE w.heap.size g0.op g0.name g0.val g0.bound A8 g0.args.length c8:=by rw[fJ];exact bF HR3.out
    have lT:Below w.heap.size w WE:=HB3.out.trans (hcE.below (B:=w.heap.size) (fun x hx h=>by omega) HB3.out.size)
    have hnew:lY (bU f) w (.agg #[.int .i64 g0.op,.string g0.name,.int .i64 g0.val,.int .i64 g0.bound,.slice A8 g0.args.length c8]) WE:=by
     rw[EM.out];exact⟨lT,A8,c8,rfl,(PV.out.nw hcE fun x h=>by have:x=w.heap.size:=h;have:=yZ.out;omega).base HB.out.size⟩
    obtain⟨y0,y1,y2,y3,y4,yl⟩:=ji.cells;clear fJ hcE ji lT r0 r1 r2 r3 r4 u0 u1 u2 u3 u4 p0 p1 p2 p3 p4 hkc;exact bodyPost_ret (v := .agg #[.int .i64 (g0.op),.string g0.name,.int .i64 (g0.val),.int .i64 (g0.bound),.slice A8 (g0.args.length) (c8)]) (by simp[results,Tryz.results125,go_sem,y0,y1,y2,y3,y4]) rfl ⟨_,rfl,hnew⟩
  ·have d8:(f.op==8)=false:=ay h8
   by_cases hop:f.op=9
   ·have d9:(f.op==9)=true:=by rw[hop];rfl
    have hl1:1<f.args.length:=L9.out (by omega);obtain⟨b2,o2,A8,c8,g0,rfl,HX0,hg0⟩:=oC.out.get (k:=0) (by have:=uw.out;omega);have EU:=hid HX0.out;have HG0:=hid hg0;obtain⟨t1,t2,x0,x1,x2,x3,x4,t3⟩:=hg0;have qcl:=hid t3;simp only[Nat.zero_mul,Nat.add_zero]at x0 x1 x2 x3 x4;clear HX0 t3 t1;obtain⟨b9,o9,A9,c9,g1,e9,vG,hg1⟩:=oC.out.get (k:=1) (by have:=uw.out;omega)
    injection e9 with e9
    injection e9 with e9a e9b
    subst e9a e9b;have y7:=hid vG.out;obtain⟨t4,t5,w0,w1,w2',w3,w4,t6⟩:=hg1;have WW:=hid t6;simp only[Nat.one_mul]at w0 w1 w2' w3 w4;clear vG t6 t4;have hl0:(0:Int)<f.args.length:=by omega
    have hl2:(1:Int)<f.args.length:=by omega
    cases hc:isC g1
    ·by_cases hk:g0.op=2
     ·have dk:(g0.op==2)=true:=by rw[hk];rfl
      have zN:pI f.op f.name f.val xs=g1:=by
       unfold pI;rw[if_neg ZJ.out,if_neg (fun h=>by omega),if_pos (by rw[EU.out];exact⟨hop,.inr hk⟩)];exact y7.out
      have PV:=WW;have Pz:=hid (fun k (hk:k=((1:Nat):Int))=>lQ xs (some ⟨b2,o2,none⟩) f.args.length f.args.length kb 1 k W3 oC.out uw.out (by have:=uw.out;omega) hk hkc false (by rw[y7.out,hc]));clear hc hk hop;have EM:=hid (show bU f=g1 by rw[Dh];exact zN);clear Dh zN;go_wp2_with (go_at_call 152;(with_reducible refine(Pz.out 1 rfl).mono ?_);rintro e w6 ⟨rfl,hw6⟩;rw[hw6];clear hw6)
      refine aK fun WE fJ=>?_;have hcE:aH (fun x=>x=w.heap.size) W3 WE:=by rw[fJ];exact aN _ _ _ _ _ _ _
      have ji:OB WE w.heap.size g1.op g1.name g1.val g1.bound A9 g1.args.length c9:=by rw[fJ];exact bF HR3.out
      have lT:Below w.heap.size w WE:=HB3.out.trans (hcE.below (B:=w.heap.size) (fun x hx h=>by omega) HB3.out.size)
      have hnew:lY (bU f) w (.agg #[.int .i64 g1.op,.string g1.name,.int .i64 g1.val,.int .i64 g1.bound,.slice A9 g1.args.length c9]) WE:=by
       rw[EM.out];exact⟨lT,A9,c9,rfl,(PV.out.nw hcE fun x h=>by have:x=w.heap.size:=h;have:=yZ.out;omega).base HB.out.size⟩
      obtain⟨y0,y1,y2,y3,y4,yl⟩:=ji.cells;clear fJ hcE ji lT r0 r1 r2 r3 r4 u0 u1 u2 u3 u4 p0 p1 p2 p3 p4 hkc;exact bodyPost_ret (v := .agg #[.int .i64 (g1.op),.string g1.name,.int .i64 (g1.val),.int .i64 (g1.bound),.slice A9 (g1.args.length) (c9)]) (by simp[results,Tryz.results125,go_sem,y0,y1,y2,y3,y4]) rfl ⟨_,rfl,hnew⟩
     ·have dk:(g0.op==2)=false:=ay hk
      have SB:pI f.op f.name f.val xs = .mk f.op f.name f.val 0 xs:=by
       unfold pI;rw[if_neg ZJ.out,if_neg (fun h=>by omega),if_neg (by rw[EU.out,y7.out,hc];rintro⟨_,h|h⟩;exact Bool.false_ne_true h;exact hk h),if_neg (fun h=>by omega)]
      have Pz:=hid (fun k (hk:k=((1:Nat):Int))=>lQ xs (some ⟨b2,o2,none⟩) f.args.length f.args.length kb 1 k W3 oC.out uw.out (by have:=uw.out;omega) hk hkc false (by rw[y7.out,hc]));clear hc hk hop;have EM:=hid (show bU f = .mk f.op f.name f.val 0 xs by rw[Dh];exact SB);clear Dh SB;go_upto_region 16 with(go_at_call 152;(with_reducible refine(Pz.out 1 rfl).mono ?_);rintro e w6 ⟨rfl,hw6⟩;rw[hw6];clear hw6)
      go_region_held3 (fun W':World=>W'.cell? ⟨b,o,none⟩=some (.int .i64 f.op)/\W'.cell? ⟨b,o+1,none⟩=some (.string f.name)/\W'.cell? ⟨b,o+2,none⟩=some (.int .i64 f.val)/\W'.cell? ⟨kb,0,none⟩=some (.slice (some ⟨b2,o2,none⟩) f.args.length f.args.length))
       (first|(go_keep;done))
       (fail)
      all_goals
       refine yM fun W8 uO=>?_
       have hcE:aH (fun x=>x=w.heap.size) W3 W8:=by
        rw[uO]
        first|exact aN _ _ _ _ _ _ _|exact(aN _ _ _ _ _ _ _).drew|exact((aH.refl (fun x=>x=w.heap.size) W3).drew).trans (aN _ _ _ _ _ _ _)|exact((aH.refl (fun x=>x=w.heap.size) W3).drewN _).trans (aN _ _ _ _ _ _ _)
       have ji:OB W8 w.heap.size f.op f.name f.val 0 (some ⟨b2,o2,none⟩) f.args.length f.args.length:=by
        rw[uO]
        first|exact bF HR3.out|exact bF (OB.below HR3.out ((Below.refl _ _).drew))|exact bF (OB.below HR3.out ((Below.refl _ _).drewN _))
       have lT:Below w.heap.size w W8:=HB3.out.trans (hcE.below (B:=w.heap.size) (fun x hx h=>by omega) HB3.out.size)
       have hnew:lY (bU f) w (.agg #[.int .i64 f.op,.string f.name,.int .i64 f.val,.int .i64 0,.slice (some ⟨b2,o2,none⟩) f.args.length f.args.length]) W8:=by
        rw[EM.out];exact⟨lT,(some ⟨b2,o2,none⟩),f.args.length,by rw[uw.out];rfl,(oC.out.nw hcE fun x h=>by have:x=w.heap.size:=h;have:=yZ.out;omega).base HB.out.size⟩
       obtain⟨y0,y1,y2,y3,y4,yl⟩:=ji.cells;clear uO hcE ji lT r0 r1 r2 r3 r4 u0 u1 u2 u3 u4 p0 p1 p2 p3 p4 hkc;go_wp2_with fail
       exact bodyPost_ret (v := .agg #[.int .i64 (f.op),.string f.name,.int .i64 (f.val),.int .i64 (0),.slice (some ⟨b2,o2,none⟩) (f.args.length) (f.args.length)]) (by simp[results,Tryz.results125,go_sem,y0,y1,y2,y3,y4]) rfl ⟨_,rfl,hnew⟩
    ·have zN:pI f.op f.name f.val xs=g1:=by
      unfold pI;rw[if_neg ZJ.out,if_neg (fun h=>by omega),if_pos (by rw[y7.out];exact⟨hop,.inl hc⟩)];exact y7.out
     have PV:=WW;have Pz:=hid (fun k (hk:k=((1:Nat):Int))=>lQ xs (some ⟨b2,o2,none⟩) f.args.length f.args.length kb 1 k W3 oC.out uw.out (by have:=uw.out;omega) hk hkc true (by rw[y7.out,hc]));clear hc hop;have EM:=hid (show bU f=g1 by rw[Dh];exact zN);clear Dh zN;go_wp2_with (go_at_call 152;(with_reducible refine(Pz.out 1 rfl).mono ?_);rintro e w6 ⟨rfl,hw6⟩;rw[hw6];clear hw6)
     refine aK fun WE fJ=>?_;have hcE:aH (fun x=>x=w.heap.size) W3 WE:=by rw[fJ];exact aN _ _ _ _ _ _ _
     have ji:OB WE w.heap.size g1.op g1.name g1.val g1.bound A9 g1.args.length c9:=by rw[fJ];exact bF HR3.out
     have lT:Below w.heap.size w WE:=HB3.out.trans (hcE.below (B:=w.heap.size) (fun x hx h=>by omega) HB3.out.size)
     have hnew:lY (bU f) w (.agg #[.int .i64 g1.op,.string g1.name,.int .i64 g1.val,.int .i64 g1.bound,.slice A9 g1.args.length c9]) WE:=by
      rw[EM.out];exact⟨lT,A9,c9,rfl,(PV.out.nw hcE fun x h=>by have:x=w.heap.size:=h;have:=yZ.out;omega).base HB.out.size⟩
     obtain⟨y0,y1,y2,y3,y4,yl⟩:=ji.cells;clear fJ hcE ji lT r0 r1 r2 r3 r4 u0 u1 u2 u3 u4 p0 p1 p2 p3 p4 hkc;exact bodyPost_ret (v := .agg #[.int .i64 (g1.op),.string g1.name,.int .i64 (g1.val),.int .i64 (g1.bound),.slice A9 (g1.args.length) (c9)]) (by simp[results,Tryz.results125,go_sem,y0,y1,y2,y3,y4]) rfl ⟨_,rfl,hnew⟩
   ·have d9:(f.op==9)=false:=ay hop
    have h9:=hop;clear hop
    by_cases hop:f.op=10
    ·have d10:(f.op==10)=true:=by rw[hop];rfl
     have hl1:1<f.args.length:=L9.out (by omega);obtain⟨b2,o2,A8,c8,g0,rfl,HX0,hg0⟩:=oC.out.get (k:=0) (by have:=uw.out;omega);have EU:=hid HX0.out;have HG0:=hid hg0;obtain⟨t1,t2,x0,x1,x2,x3,x4,t3⟩:=hg0;have qcl:=hid t3;simp only[Nat.zero_mul,Nat.add_zero]at x0 x1 x2 x3 x4;clear HX0 t3 t1;obtain⟨b9,o9,A9,c9,g1,e9,vG,hg1⟩:=oC.out.get (k:=1) (by have:=uw.out;omega)
     injection e9 with e9
     injection e9 with e9a e9b
     subst e9a e9b;have y7:=hid vG.out;obtain⟨t4,t5,w0,w1,w2',w3,w4,t6⟩:=hg1;have WW:=hid t6;simp only[Nat.one_mul]at w0 w1 w2' w3 w4;clear vG t6 t4;have hl0:(0:Int)<f.args.length:=by omega
     have hl2:(1:Int)<f.args.length:=by omega
     cases hc:isC g1
     ·by_cases hk:g0.op=1
      ·have dk:(g0.op==1)=true:=by rw[hk];rfl
       have zN:pI f.op f.name f.val xs=g1:=by
        unfold pI;rw[if_neg ZJ.out,if_neg (fun h=>by omega),if_neg (fun h=>by omega),if_pos (by rw[EU.out];exact⟨hop,.inr hk⟩)];exact y7.out
       have PV:=WW;have Pz:=hid (fun k (hk:k=((1:Nat):Int))=>lQ xs (some ⟨b2,o2,none⟩) f.args.length f.args.length kb 1 k W3 oC.out uw.out (by have:=uw.out;omega) hk hkc false (by rw[y7.out,hc]));clear hc hk hop;have EM:=hid (show bU f=g1 by rw[Dh];exact zN);clear Dh zN;go_wp2_with (go_at_call 152;(with_reducible refine(Pz.out 1 rfl).mono ?_);rintro e w6 ⟨rfl,hw6⟩;rw[hw6];clear hw6)
       refine aK fun WE fJ=>?_;have hcE:aH (fun x=>x=w.heap.size) W3 WE:=by rw[fJ];exact aN _ _ _ _ _ _ _
       have ji:OB WE w.heap.size g1.op g1.name g1.val g1.bound A9 g1.args.length c9:=by rw[fJ];exact bF HR3.out
       have lT:Below w.heap.size w WE:=HB3.out.trans (hcE.below (B:=w.heap.size) (fun x hx h=>by omega) HB3.out.size)
       have hnew:lY (bU f) w (.agg #[.int .i64 g1.op,.string g1.name,.int .i64 g1.val,.int .i64 g1.bound,.slice A9 g1.args.length c9]) WE:=by
        rw[EM.out];exact⟨lT,A9,c9,rfl,(PV.out.nw hcE fun x h=>by have:x=w.heap.size:=h;have:=yZ.out;omega).base HB.out.size⟩
       obtain⟨y0,y1,y2,y3,y4,yl⟩:=ji.cells;clear fJ hcE ji lT r0 r1 r2 r3 r4 u0 u1 u2 u3 u4 p0 p1 p2 p3 p4 hkc;exact bodyPost_ret (v := .agg #[.int .i64 (g1.op),.string g1.name,.int .i64 (g1.val),.int .i64 (g1.bound),.slice A9 (g1.args.length) (c9)]) (by simp[results,Tryz.results125,go_sem,y0,y1,y2,y3,y4]) rfl ⟨_,rfl,hnew⟩
      ·have dk:(g0.op==1)=false:=ay hk
       have SB:pI f.op f.name f.val xs = .mk f.op f.name f.val 0 xs:=by
        unfold pI;rw[if_neg ZJ.out,if_neg (fun h=>by omega),if_neg (fun h=>by omega),if_neg (by rw[EU.out,y7.out,hc];rintro⟨_,h|h⟩;exact Bool.false_ne_true h;exact hk h)]
       have Pz:=hid (fun k (hk:k=((1:Nat):Int))=>lQ xs (some ⟨b2,o2,none⟩) f.args.length f.args.length kb 1 k W3 oC.out uw.out (by have:=uw.out;omega) hk hkc false (by rw[y7.out,hc]));clear hc hk hop;have EM:=hid (show bU f = .mk f.op f.name f.val 0 xs by rw[Dh];exact SB);clear Dh SB;go_upto_region 16 with(go_at_call 152;(with_reducible refine(Pz.out 1 rfl).mono ?_);rintro e w6 ⟨rfl,hw6⟩;rw[hw6];clear hw6)
       go_region_held3 (fun W':World=>W'.cell? ⟨b,o,none⟩=some (.int .i64 f.op)/\W'.cell? ⟨b,o+1,none⟩=some (.string f.name)/\W'.cell? ⟨b,o+2,none⟩=some (.int .i64 f.val)/\W'.cell? ⟨kb,0,none⟩=some (.slice (some ⟨b2,o2,none⟩) f.args.length f.args.length))
        (first|(go_keep;done))
        (fail)
       all_goals
        refine yM fun W8 uO=>?_
        have hcE:aH (fun x=>x=w.heap.size) W3 W8:=by
         rw[uO]
         first|exact aN _ _ _ _ _ _ _|exact(aN _ _ _ _ _ _ _).drew|exact((aH.refl (fun x=>x=w.heap.size) W3).drew).trans (aN _ _ _ _ _ _ _)|exact((aH.refl (fun x=>x=w.heap.size) W3).drewN _).trans (aN _ _ _ _ _ _ _)
        have ji:OB W8 w.heap.size f.op f.name f.val 0 (some ⟨b2,o2,none⟩) f.args.length f.args.length:=by
         rw[uO]
         first|exact bF HR3.out|exact bF (OB.below HR3.out ((Below.refl _ _).drew))|exact bF (OB.below HR3.out ((Below.refl _ _).drewN _))
        have lT:Below w.heap.size w W8:=HB3.out.trans (hcE.below (B:=w.heap.size) (fun x hx h=>by omega) HB3.out.size)
        have hnew:lY (bU f) w (.agg #[.int .i64 f.op,.string f.name,.int .i64 f.val,.int .i64 0,.slice (some ⟨b2,o2,none⟩) f.args.length f.args.length]) W8:=by
         rw[EM.out];exact⟨lT,(some ⟨b2,o2,none⟩),f.args.length,by rw[uw.out];rfl,(oC.out.nw hcE fun x h=>by have:x=w.heap.size:=h;have:=yZ.out;omega).base HB.out.size⟩
        obtain⟨y0,y1,y2,y3,y4,yl⟩:=ji.cells;clear uO hcE ji lT r0 r1 r2 r3 r4 u0 u1 u2 u3 u4 p0 p1 p2 p3 p4 hkc;go_wp2_with fail
        exact bodyPost_ret (v := .agg #[.int .i64 (f.op),.string f.name,.int .i64 (f.val),.int .i64 (0),.slice (some ⟨b2,o2,none⟩) (f.args.length) (f.args.length)]) (by simp[results,Tryz.results125,go_sem,y0,y1,y2,y3,y4]) rfl ⟨_,rfl,hnew⟩
     ·have zN:pI f.op f.name f.val xs=g1:=by
       unfold pI;rw[if_neg ZJ.out,if_neg (fun h=>by omega),if_neg (fun h=>by omega),if_pos (by rw[y7.out];exact⟨hop,.inl hc⟩)];exact y7.out
      have PV:=WW;have Pz:=hid (fun k (hk:k=((1:Nat):Int))=>lQ xs (some ⟨b2,o2,none⟩) f.args.length f.args.length kb 1 k W3 oC.out uw.out (by have:=uw.out;omega) hk hkc true (by rw[y7.out,hc]));clear hc hop;have EM:=hid (show bU f=g1 by rw[Dh];exact zN);clear Dh zN;go_wp2_with (go_at_call 152;(with_reducible refine(Pz.out 1 rfl).mono ?_);rintro e w6 ⟨rfl,hw6⟩;rw[hw6];clear hw6)
      refine aK fun WE fJ=>?_;have hcE:aH (fun x=>x=w.heap.size) W3 WE:=by rw[fJ];exact aN _ _ _ _ _ _ _
      have ji:OB WE w.heap.size g1.op g1.name g1.val g1.bound A9 g1.args.length c9:=by rw[fJ];exact bF HR3.out
      have lT:Below w.heap.size w WE:=HB3.out.trans (hcE.below (B:=w.heap.size) (fun x hx h=>by omega) HB3.out.size)
      have hnew:lY (bU f) w (.agg #[.int .i64 g1.op,.string g1.name,.int .i64 g1.val,.int .i64 g1.bound,.slice A9 g1.args.length c9]) WE:=by
       rw[EM.out];exact⟨lT,A9,c9,rfl,(PV.out.nw hcE fun x h=>by have:x=w.heap.size:=h;have:=yZ.out;omega).base HB.out.size⟩
      obtain⟨y0,y1,y2,y3,y4,yl⟩:=ji.cells;clear fJ hcE ji lT r0 r1 r2 r3 r4 u0 u1 u2 u3 u4 p0 p1 p2 p3 p4 hkc;exact bodyPost_ret (v := .agg #[.int .i64 (g1.op),.string g1.name,.int .i64 (g1.val),.int .i64 (g1.bound),.slice A9 (g1.args.length) (c9)]) (by simp[results,Tryz.results125,go_sem,y0,y1,y2,y3,y4]) rfl ⟨_,rfl,hnew⟩
    ·have d10:(f.op==10)=false:=ay hop
     have SB:pI f.op f.name f.val xs = .mk f.op f.name f.val 0 xs:=by
      unfold pI;rw[if_neg ZJ.out,if_neg (fun h=>h8 h.1),if_neg (fun h=>h9 h.1),if_neg (fun h=>hop h.1)]
     clear h8 h9 hop;have EM:=hid (show bU f = .mk f.op f.name f.val 0 xs by rw[Dh];exact SB);clear Dh SB;go_upto_region 16 with(fail)
     go_region_held3 (fun W':World=>W'.cell? ⟨b,o,none⟩=some (.int .i64 f.op)/\W'.cell? ⟨b,o+1,none⟩=some (.string f.name)/\W'.cell? ⟨b,o+2,none⟩=some (.int .i64 f.val)/\W'.cell? ⟨kb,0,none⟩=some (.slice A2 f.args.length f.args.length))
      (first|(go_keep;done))
      (fail)
     all_goals
      refine yM fun W8 uO=>?_
      have hcE:aH (fun x=>x=w.heap.size) W3 W8:=by
       rw[uO]
       first|exact aN _ _ _ _ _ _ _|exact(aN _ _ _ _ _ _ _).drew|exact((aH.refl (fun x=>x=w.heap.size) W3).drew).trans (aN _ _ _ _ _ _ _)|exact((aH.refl (fun x=>x=w.heap.size) W3).drewN _).trans (aN _ _ _ _ _ _ _)
      have ji:OB W8 w.heap.size f.op f.name f.val 0 A2 f.args.length f.args.length:=by
       rw[uO]
       first|exact bF HR3.out|exact bF (OB.below HR3.out ((Below.refl _ _).drew))|exact bF (OB.below HR3.out ((Below.refl _ _).drewN _))
      have lT:Below w.heap.size w W8:=HB3.out.trans (hcE.below (B:=w.heap.size) (fun x hx h=>by omega) HB3.out.size)
      have hnew:lY (bU f) w (.agg #[.int .i64 f.op,.string f.name,.int .i64 f.val,.int .i64 0,.slice A2 f.args.length f.args.length]) W8:=by
       rw[EM.out];exact⟨lT,A2,f.args.length,by rw[uw.out];rfl,(oC.out.nw hcE fun x h=>by have:x=w.heap.size:=h;have:=yZ.out;omega).base HB.out.size⟩
      obtain⟨y0,y1,y2,y3,y4,yl⟩:=ji.cells;clear uO hcE ji lT r0 r1 r2 r3 r4 u0 u1 u2 u3 u4 p0 p1 p2 p3 p4 hkc;go_wp2_with fail
      exact bodyPost_ret (v := .agg #[.int .i64 (f.op),.string f.name,.int .i64 (f.val),.int .i64 (0),.slice A2 (f.args.length) (f.args.length)]) (by simp[results,Tryz.results125,go_sem,y0,y1,y2,y3,y4]) rfl ⟨_,rfl,hnew⟩
theorem Ur (f:Fm):∀ins,allI bY ins f->f.size<=1000000->JO f:=by
 induction f using Fm.ind with
 | h f ih =>
  intro ins hb hz;have hs:=Fm.size_eq f;exact Qe f (fun g hg=>ih g hg _ ((dS.1 hb).2 g hg) (by have:=gB hg;omega)) ins hb hz
end Go.Proofs.YtdpbgcmfeajigaaGreatDoor
