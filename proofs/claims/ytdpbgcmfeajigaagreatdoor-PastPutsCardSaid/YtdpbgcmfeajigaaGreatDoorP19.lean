/-
  Walk of canon.
-/
import Derived.Test.YtdpbgcmfeajigaaGreatDoorP18
set_option linter.unusedSimpArgs false
set_option linter.unusedVariables false
set_option maxHeartbeats 8000000
set_option maxRecDepth 100000
namespace Go.Proofs.YtdpbgcmfeajigaaGreatDoor
open Go.RowKit Go.Shelf
attribute [local go_sem] ak jG run_store_func Qv
theorem Qz (f:Fm)(ih:∀g,g∈f.args->JO g)(ins:Bool)(hbare:allI bU ins f)(hz:f.size<=1000000):JO f:=by
 intro D b o A c w h;have hmf:∀(fn:Fn) (first cap:Array Value) (w:World),(Instr.makeFunc fn first cap).run Tryz.prog w = .ok (.func fn first cap) w:=fun _ _ _ _=>rfl;have ecl:∀args W,(callFunc 152 args).run Tryz.prog W = .ok (.enter 152 args) W:=enters_of Tryz.func152 (by kernel_rfl) rfl;have HH:=hid h.old;have zi:=hid (xw f);have hsz:=Fm.size_eq f;have hal:=jB f.args;obtain⟨h1,h2⟩:=dK.1 hbare;obtain⟨k1,k2,k3,k4⟩:=jU h1;obtain⟨s1,s2,s3,s4,s5,s6,s7,s8⟩:=iM k2;have L8:=hid (show f.op=8->0<f.args.length from fun e=>by rw[e]at s2;exact s2);have L9:=hid (show f.op=9\/f.op=10->1<f.args.length from fun e=>by rcases e with e|e <;> (rw[e]at s2;exact s2));obtain⟨xs,has⟩:∃xs,xs=f.args.map bP:=⟨_,rfl⟩
 have qy:=hid (show f.args.length=xs.length by rw[has];simp)
 have jQ:=hid (show sizes xs<=1000000 by
  have:=qj (g:=bP) (l:=f.args) fun x _=>Dh x
  rw[has];omega)
 have nZ:=hid (show f.op=5\/f.op=6->∀g,g∈xs->allI bU ins g from fun hop g hg=>by
  rw[has]at hg;obtain⟨x,hx,rfl⟩:=List.mem_map.1 hg
  have hp:(aI f.op).past=false:=by rcases hop with e|e <;> rw[e] <;> rfl
  have:=h2 x hx;rw[hp,Bool.or_false]at this
  exact Df x _ this (Ub (by have:=gJ hx;omega)))
 have HAS:=hid has;have hfl:f.args.length<=1000000:=by omega
 rw[<-has]at zi;clear has h1 h2 k1 k2 k3 k4 s1 s2 s3 s4 s5 s6 s7 s8 hbare h hsz hal hz
 go_enter Tryz.func125,Tryz.ntmps125
 go_upto_region 1 with(fail)
 refine aH fun W hW=>?_;have HB:=hid (show Below w.heap.size w W by rw[hW];go_grown);have HR:=hid (show OB W w.heap.size 0 ⟨#[]⟩ 0 0 none 0 0 by rw[hW];exact at_new _ _ _ rfl);have yK:=hid (show W.heap.size=w.heap.size+1 by rw[hW];simp);have HF:=hid (HH.out.keep (Keeps.of_below HB.out fun _ h=>h));have HC:=hid (QA HF.out.args rfl hfl ih);clear hW ih;obtain⟨q1,q2,p0,p1,p2,p3,p4,q3⟩:=HF.out;clear q3;go_upto_region 2 with(go_at_call 151;refine HC.out.mono ?_;rintro e w2 ⟨A2,rfl,ha2,hb2⟩)
 refine aH fun W3 hW3=>?_;obtain⟨kb,hkb⟩:∃kb,kb=w2.heap.size:=⟨_,rfl⟩;rw[<-hkb];have hkc:W3.cell? ⟨kb,0,none⟩=some (.slice A2 f.args.length f.args.length):=by rw[hW3];exact aj (at_new _ _ _ hkb) (i:=0) rfl
 have hkl:kb<W3.heap.size:=by rw[hW3,hkb];simp
 have Xe:=hid (show Below W.heap.size W W3 by rw[hW3];exact hb2.alloc hb2.size _);have HB3:=hid (HB.out.trans (Xe.out.mono HB.out.size));have nY:=hid (show bM W3 (Nw W.heap.size W3) xs A2 f.args.length from by rw[<-HAS.out]at ha2;exact ha2.nw (V:=fun _=>False) (by rw[hW3];exact(aF.refl _ w2).alloc _) fun _ h=>h.elim);have HR3:=hid (HR.out.below Xe.out);have HF3:=hid (HF.out.keep (Keeps.of_below Xe.out fun k hk=>by have:=yK.out;omega));have hkw:W.heap.size<=kb:=by rw[hkb];exact hb2.size
 have hkw1:¬w.heap.size=kb:=by have:=yK.out;omega
 have hkw2:¬kb=w.heap.size:=fun e=>hkw1 e.symm;have hbw:b<w.heap.size:=q1;have hbk:¬b=kb:=by have:=yK.out;omega
 have hbk2:¬kb=b:=fun e=>hbk e.symm;have hbr:¬b=w.heap.size:=by omega
 have hbr2:¬w.heap.size=b:=fun e=>hbr e.symm;clear hW3 hkb hb2 ha2 HC p0 p1 p2 p3 p4 q1 q2;obtain⟨q1,q2,p0,p1,p2,p3,p4,q3⟩:=HF3.out;obtain⟨r0,r1,r2,r3,r4,rl⟩:=HR3.out.cells;have u0:=HR3.out.free 0;have u1:=HR3.out.free 1;have u2:=HR3.out.free 2;have u3:=HR3.out.free 3;have u4:=HR3.out.free 4;clear q3 q1
 by_cases hop:f.op=5\/f.op=6
 ·rcases hop with e|e
  ·have d5:(f.op==5)=true:=by rw[e];rfl
   have hop:f.op=5\/f.op=6 := .inl e;clear e;have EC:=hid (show bP f=pz f.op xs by rw[zi];unfold oW;rw[if_pos hop]);have vT:=hid (nZ.out hop);have Um:=hid (yQ hop vT.out)
   have HJ:=hid (show∀W',aU W3 W'->Calls Tryz.prog 153 #[.int .i64 f.op,.slice A2 f.args.length f.args.length] W' fun e w'=>∃v,e = .returned v/\bG w' (Nw W.heap.size w') v (pz f.op xs)/\Below W3.heap.size W3 w' from fun W' hd=>(NS (base:=W.heap.size) (nY.out.nw ((aF.refl (fun _=>False) W3).drawn hd) fun _ h=>h.elim) qy.out hop (Nat.le_trans Xe.out.size (hd.below 0).size) jQ.out (fun x hx h4=>MV (Um.out x hx) h4) (fun x hx=>⟨_,ET MR (Um.out x hx)⟩)).mono (by
    rintro e w' ⟨v,rfl,hv,hb⟩
    exact⟨v,rfl,hv,(hd.below _).trans (hb.mono (hd.below 0).size)⟩))
   have aK:=hid (show∀W',Below W3.heap.size W3 W'->W'.cell? ⟨b,o,none⟩=some (.int .i64 f.op)/\W'.cell? ⟨kb,0,none⟩=some (.slice A2 f.args.length f.args.length)from fun W' hb=>⟨(hb.cell (p:=⟨b,o,none⟩) q2).trans p0,(hb.cell (p:=⟨kb,0,none⟩) hkl).trans hkc⟩);clear hop zi;go_upto_region 6 with(fail)
   go_region_held3 (fun W':World=>W'.cell? ⟨b,o,none⟩=some (.int .i64 f.op)/\W'.cell? ⟨kb,0,none⟩=some (.slice A2 f.args.length f.args.length))
    (first|(with_reducible exact aK.out _ hb5)|(go_keep;done))
    ((go_at_call 153;(with_reducible refine(HJ.out _ (by first|exact aU.refl _|exact(aU.refl _).drew|exact(aU.refl _).drewN _)).mono ?_);rintro e w5 ⟨v,rfl,⟨A5,c5,rfl,Vd⟩,hb5⟩;have HA5:=hid Vd;have O5:=hid hb5;have LJ:=hid (HR3.out.below hb5);clear Vd;obtain⟨z0,z1,z2,z3,z4,zl⟩:=LJ.out.cells;have v0:=LJ.out.free 0;have v1:=LJ.out.free 1;have v2:=LJ.out.free 2;have v3:=LJ.out.free 3;have v4:=LJ.out.free 4))
   all_goals
    refine yw fun W8 uw=>?_;obtain⟨g,hg⟩:∃g,g=pz f.op xs:=⟨_,rfl⟩;rw[<-hg]at uw HA5 EC;have hcE:aF (fun x=>x=w.heap.size) w5 W8:=by rw[uw];exact aN _ _ _ _ _ _ _
    have iY:OB W8 w.heap.size g.op g.name g.val g.bound A5 g.args.length c5:=by rw[uw];exact bC LJ.out
    have lF:Below w.heap.size w W8:=(HB3.out.trans (O5.out.mono HB3.out.size)).trans (hcE.below (B:=w.heap.size) (fun x hx h=>by omega) (Nat.le_trans HB3.out.size O5.out.size))
    have hnew:lT (bP f) w (.agg #[.int .i64 g.op,.string g.name,.int .i64 g.val,.int .i64 g.bound,.slice A5 g.args.length c5]) W8:=by
     rw[EC.out];exact⟨lF,A5,c5,rfl,(HA5.out.nw hcE fun x h=>by have:x=w.heap.size:=h;have:=yK.out;omega).base HB.out.size⟩
    obtain⟨y0,y1,y2,y3,y4,yl⟩:=iY.cells;clear uw hcE iY lF r0 r1 r2 r3 r4 u0 u1 u2 u3 u4 z0 z1 z2 z3 z4 v0 v1 v2 v3 v4 p0 p1 p2 p3 p4 hkc;go_wp2_with fail
    exact bodyPost_ret (v := .agg #[.int .i64 (g.op),.string g.name,.int .i64 (g.val),.int .i64 (g.bound),.slice A5 (g.args.length) (c5)]) (by simp[results,Tryz.results125,go_sem,y0,y1,y2,y3,y4]) rfl ⟨_,rfl,hnew⟩
  ·have d5:(f.op==5)=false:=by rw[e];rfl
   have d6:(f.op==6)=true:=by rw[e];rfl
   have hop:f.op=5\/f.op=6 := .inr e;clear e;have EC:=hid (show bP f=pz f.op xs by rw[zi];unfold oW;rw[if_pos hop]);have vT:=hid (nZ.out hop);have Um:=hid (yQ hop vT.out)
   have HJ:=hid (show∀W',aU W3 W'->Calls Tryz.prog 153 #[.int .i64 f.op,.slice A2 f.args.length f.args.length] W' fun e w'=>∃v,e = .returned v/\bG w' (Nw W.heap.size w') v (pz f.op xs)/\Below W3.heap.size W3 w' from fun W' hd=>(NS (base:=W.heap.size) (nY.out.nw ((aF.refl (fun _=>False) W3).drawn hd) fun _ h=>h.elim) qy.out hop (Nat.le_trans Xe.out.size (hd.below 0).size) jQ.out (fun x hx h4=>MV (Um.out x hx) h4) (fun x hx=>⟨_,ET MR (Um.out x hx)⟩)).mono (by
    rintro e w' ⟨v,rfl,hv,hb⟩
    exact⟨v,rfl,hv,(hd.below _).trans (hb.mono (hd.below 0).size)⟩))
   have aK:=hid (show∀W',Below W3.heap.size W3 W'->W'.cell? ⟨b,o,none⟩=some (.int .i64 f.op)/\W'.cell? ⟨kb,0,none⟩=some (.slice A2 f.args.length f.args.length)from fun W' hb=>⟨(hb.cell (p:=⟨b,o,none⟩) q2).trans p0,(hb.cell (p:=⟨kb,0,none⟩) hkl).trans hkc⟩);clear hop zi;go_upto_region 6 with(fail)
   go_region_held3 (fun W':World=>W'.cell? ⟨b,o,none⟩=some (.int .i64 f.op)/\W'.cell? ⟨kb,0,none⟩=some (.slice A2 f.args.length f.args.length))
    (first|(with_reducible exact aK.out _ hb5)|(go_keep;done))
    ((go_at_call 153;(with_reducible refine(HJ.out _ (by first|exact aU.refl _|exact(aU.refl _).drew|exact(aU.refl _).drewN _)).mono ?_);rintro e w5 ⟨v,rfl,⟨A5,c5,rfl,Vd⟩,hb5⟩;have HA5:=hid Vd;have O5:=hid hb5;have LJ:=hid (HR3.out.below hb5);clear Vd;obtain⟨z0,z1,z2,z3,z4,zl⟩:=LJ.out.cells;have v0:=LJ.out.free 0;have v1:=LJ.out.free 1;have v2:=LJ.out.free 2;have v3:=LJ.out.free 3;have v4:=LJ.out.free 4))
   all_goals
    refine yw fun W8 uw=>?_;obtain⟨g,hg⟩:∃g,g=pz f.op xs:=⟨_,rfl⟩;rw[<-hg]at uw HA5 EC;have hcE:aF (fun x=>x=w.heap.size) w5 W8:=by rw[uw];exact aN _ _ _ _ _ _ _
    have iY:OB W8 w.heap.size g.op g.name g.val g.bound A5 g.args.length c5:=by rw[uw];exact bC LJ.out
    have lF:Below w.heap.size w W8:=(HB3.out.trans (O5.out.mono HB3.out.size)).trans (hcE.below (B:=w.heap.size) (fun x hx h=>by omega) (Nat.le_trans HB3.out.size O5.out.size))
    have hnew:lT (bP f) w (.agg #[.int .i64 g.op,.string g.name,.int .i64 g.val,.int .i64 g.bound,.slice A5 g.args.length c5]) W8:=by
     rw[EC.out];exact⟨lF,A5,c5,rfl,(HA5.out.nw hcE fun x h=>by have:x=w.heap.size:=h;have:=yK.out;omega).base HB.out.size⟩
    obtain⟨y0,y1,y2,y3,y4,yl⟩:=iY.cells;clear uw hcE iY lF r0 r1 r2 r3 r4 u0 u1 u2 u3 u4 z0 z1 z2 z3 z4 v0 v1 v2 v3 v4 p0 p1 p2 p3 p4 hkc;go_wp2_with fail
    exact bodyPost_ret (v := .agg #[.int .i64 (g.op),.string g.name,.int .i64 (g.val),.int .i64 (g.bound),.slice A5 (g.args.length) (c5)]) (by simp[results,Tryz.results125,go_sem,y0,y1,y2,y3,y4]) rfl ⟨_,rfl,hnew⟩
 ·have d5:(f.op==5)=false:=au fun e=>hop (.inl e)
  have d6:(f.op==6)=false:=au fun e=>hop (.inr e);have HNJ:=hid hop;clear hop
  by_cases h8:f.op=8
  ·have d8:(f.op==8)=true:=by rw[h8];rfl
   have hl0:0<f.args.length:=L8.out h8;obtain⟨b2,o2,A8,c8,g0,rfl,HX0,hg0⟩:=nY.out.get (k:=0) (by have:=qy.out;omega);have EL:=hid HX0.out;have HG0:=hid hg0;obtain⟨t1,t2,x0,x1,x2,x3,x4,t3⟩:=hg0;have qda:=hid t3;simp only[Nat.zero_mul,Nat.add_zero]at x0 x1 x2 x3 x4;clear HX0 t3 t1;have hl1:(0:Int)<f.args.length:=by omega
   cases hc:isC g0
   ·have Tj:oW f.op f.name f.val xs = .mk f.op f.name f.val 0 xs:=by
     unfold oW;rw[if_neg HNJ.out,if_neg (by rw[EL.out,hc];exact fun h=>Bool.false_ne_true h.2),if_neg (fun h=>by omega),if_neg (fun h=>by omega)]
    have P7:=hid (fun k (hk:k=((0:Nat):Int))=>lD xs (some ⟨b2,o2,none⟩) f.args.length f.args.length kb 0 k W3 nY.out qy.out (by have:=qy.out;omega) hk hkc false (by rw[EL.out,hc]));clear h8 hc;have EC:=hid (show bP f = .mk f.op f.name f.val 0 xs by rw[zi];exact Tj);clear zi Tj;go_upto_region 16 with(go_at_call 152;(with_reducible refine(P7.out 0 rfl).mono ?_);rintro e w6 ⟨rfl,hw6⟩;rw[hw6];clear hw6)
    go_region_held3 (fun W':World=>W'.cell? ⟨b,o,none⟩=some (.int .i64 f.op)/\W'.cell? ⟨b,o+1,none⟩=some (.string f.name)/\W'.cell? ⟨b,o+2,none⟩=some (.int .i64 f.val)/\W'.cell? ⟨kb,0,none⟩=some (.slice (some ⟨b2,o2,none⟩) f.args.length f.args.length))
     (first|(go_keep;done))
     (fail)
    all_goals
     refine yw fun W8 uw=>?_
     have hcE:aF (fun x=>x=w.heap.size) W3 W8:=by
      rw[uw]
      first|exact aN _ _ _ _ _ _ _|exact(aN _ _ _ _ _ _ _).drew|exact((aF.refl (fun x=>x=w.heap.size) W3).drew).trans (aN _ _ _ _ _ _ _)|exact((aF.refl (fun x=>x=w.heap.size) W3).drewN _).trans (aN _ _ _ _ _ _ _)
     have iY:OB W8 w.heap.size f.op f.name f.val 0 (some ⟨b2,o2,none⟩) f.args.length f.args.length:=by
      rw[uw]
      first|exact bC HR3.out|exact bC (OB.below HR3.out ((Below.refl _ _).drew))|exact bC (OB.below HR3.out ((Below.refl _ _).drewN _))
     have lF:Below w.heap.size w W8:=HB3.out.trans (hcE.below (B:=w.heap.size) (fun x hx h=>by omega) HB3.out.size)
     have hnew:lT (bP f) w (.agg #[.int .i64 f.op,.string f.name,.int .i64 f.val,.int .i64 0,.slice (some ⟨b2,o2,none⟩) f.args.length f.args.length]) W8:=by
      rw[EC.out];exact⟨lF,(some ⟨b2,o2,none⟩),f.args.length,by rw[qy.out];rfl,(nY.out.nw hcE fun x h=>by have:x=w.heap.size:=h;have:=yK.out;omega).base HB.out.size⟩
     obtain⟨y0,y1,y2,y3,y4,yl⟩:=iY.cells;clear uw hcE iY lF r0 r1 r2 r3 r4 u0 u1 u2 u3 u4 p0 p1 p2 p3 p4 hkc;go_wp2_with fail
     exact bodyPost_ret (v := .agg #[.int .i64 (f.op),.string f.name,.int .i64 (f.val),.int .i64 (0),.slice (some ⟨b2,o2,none⟩) (f.args.length) (f.args.length)]) (by simp[results,Tryz.results125,go_sem,y0,y1,y2,y3,y4]) rfl ⟨_,rfl,hnew⟩
   ·have zu:oW f.op f.name f.val xs=g0:=by
     unfold oW;rw[if_neg HNJ.out,if_pos (by rw[EL.out,hc];exact⟨h8,rfl⟩)];exact EL.out
    have HRG:=qda;have P7:=hid (fun k (hk:k=((0:Nat):Int))=>lD xs (some ⟨b2,o2,none⟩) f.args.length f.args.length kb 0 k W3 nY.out qy.out (by have:=qy.out;omega) hk hkc true (by rw[EL.out,hc]));clear h8 hc;have EC:=hid (show bP f=g0 by rw[zi];exact zu);clear zi zu;go_wp2_with (go_at_call 152;(with_reducible refine(P7.out 0 rfl).mono ?_);rintro e w6 ⟨rfl,hw6⟩;rw[hw6];clear hw6)
    refine aJ fun WE fB=>?_;have hcE:aF (fun x=>x=w.heap.size) W3 WE:=by rw[fB];exact aN _ _ _ _ _ _ _
    have iY:OB WE w.heap.size g0.op g0.name g0.val g0.bound A8 g0.args.length c8:=by rw[fB];exact bC HR3.out
    have lF:Below w.heap.size w WE:=HB3.out.trans (hcE.below (B:=w.heap.size) (fun x hx h=>by omega) HB3.out.size)
    have hnew:lT (bP f) w (.agg #[.int .i64 g0.op,.string g0.name,.int .i64 g0.val,.int .i64 g0.bound,.slice A8 g0.args.length c8]) WE:=by
     rw[EC.out];exact⟨lF,A8,c8,rfl,(HRG.out.nw hcE fun x h=>by have:x=w.heap.size:=h;have:=yK.out;omega).base HB.out.size⟩
    obtain⟨y0,y1,y2,y3,y4,yl⟩:=iY.cells;clear fB hcE iY lF r0 r1 r2 r3 r4 u0 u1 u2 u3 u4 p0 p1 p2 p3 p4 hkc;exact bodyPost_ret (v := .agg #[.int .i64 (g0.op),.string g0.name,.int .i64 (g0.val),.int .i64 (g0.bound),.slice A8 (g0.args.length) (c8)]) (by simp[results,Tryz.results125,go_sem,y0,y1,y2,y3,y4]) rfl ⟨_,rfl,hnew⟩
  ·have d8:(f.op==8)=false:=au h8
   by_cases hop:f.op=9
   ·have d9:(f.op==9)=true:=by rw[hop];rfl
    have hl1:1<f.args.length:=L9.out (by omega);obtain⟨b2,o2,A8,c8,g0,rfl,HX0,hg0⟩:=nY.out.get (k:=0) (by have:=qy.out;omega);have EL:=hid HX0.out;have HG0:=hid hg0;obtain⟨t1,t2,x0,x1,x2,x3,x4,t3⟩:=hg0;have qda:=hid t3;simp only[Nat.zero_mul,Nat.add_zero]at x0 x1 x2 x3 x4;clear HX0 t3 t1;obtain⟨b9,o9,A9,c9,g1,e9,uU,hg1⟩:=nY.out.get (k:=1) (by have:=qy.out;omega)
    injection e9 with e9
    injection e9 with e9a e9b
    subst e9a e9b;have yL:=hid uU.out;obtain⟨t4,t5,w0,w1,w2',w3,w4,t6⟩:=hg1;have Xw:=hid t6;simp only[Nat.one_mul]at w0 w1 w2' w3 w4;clear uU t6 t4;have hl0:(0:Int)<f.args.length:=by omega
    have hl2:(1:Int)<f.args.length:=by omega
    cases hc:isC g1
    ·by_cases hk:g0.op=2
     ·have dk:(g0.op==2)=true:=by rw[hk];rfl
      have zu:oW f.op f.name f.val xs=g1:=by
       unfold oW;rw[if_neg HNJ.out,if_neg (fun h=>by omega),if_pos (by rw[EL.out];exact⟨hop,.inr hk⟩)];exact yL.out
      have HRG:=Xw;have P7:=hid (fun k (hk:k=((1:Nat):Int))=>lD xs (some ⟨b2,o2,none⟩) f.args.length f.args.length kb 1 k W3 nY.out qy.out (by have:=qy.out;omega) hk hkc false (by rw[yL.out,hc]));clear hc hk hop;have EC:=hid (show bP f=g1 by rw[zi];exact zu);clear zi zu;go_wp2_with (go_at_call 152;(with_reducible refine(P7.out 1 rfl).mono ?_);rintro e w6 ⟨rfl,hw6⟩;rw[hw6];clear hw6)
      refine aJ fun WE fB=>?_;have hcE:aF (fun x=>x=w.heap.size) W3 WE:=by rw[fB];exact aN _ _ _ _ _ _ _
      have iY:OB WE w.heap.size g1.op g1.name g1.val g1.bound A9 g1.args.length c9:=by rw[fB];exact bC HR3.out
      have lF:Below w.heap.size w WE:=HB3.out.trans (hcE.below (B:=w.heap.size) (fun x hx h=>by omega) HB3.out.size)
      have hnew:lT (bP f) w (.agg #[.int .i64 g1.op,.string g1.name,.int .i64 g1.val,.int .i64 g1.bound,.slice A9 g1.args.length c9]) WE:=by
       rw[EC.out];exact⟨lF,A9,c9,rfl,(HRG.out.nw hcE fun x h=>by have:x=w.heap.size:=h;have:=yK.out;omega).base HB.out.size⟩
      obtain⟨y0,y1,y2,y3,y4,yl⟩:=iY.cells;clear fB hcE iY lF r0 r1 r2 r3 r4 u0 u1 u2 u3 u4 p0 p1 p2 p3 p4 hkc;exact bodyPost_ret (v := .agg #[.int .i64 (g1.op),.string g1.name,.int .i64 (g1.val),.int .i64 (g1.bound),.slice A9 (g1.args.length) (c9)]) (by simp[results,Tryz.results125,go_sem,y0,y1,y2,y3,y4]) rfl ⟨_,rfl,hnew⟩
     ·have dk:(g0.op==2)=false:=au hk
      have Tj:oW f.op f.name f.val xs = .mk f.op f.name f.val 0 xs:=by
       unfold oW;rw[if_neg HNJ.out,if_neg (fun h=>by omega),if_neg (by rw[EL.out,yL.out,hc];rintro⟨_,h|h⟩;exact Bool.false_ne_true h;exact hk h),if_neg (fun h=>by omega)]
      have P7:=hid (fun k (hk:k=((1:Nat):Int))=>lD xs (some ⟨b2,o2,none⟩) f.args.length f.args.length kb 1 k W3 nY.out qy.out (by have:=qy.out;omega) hk hkc false (by rw[yL.out,hc]));clear hc hk hop;have EC:=hid (show bP f = .mk f.op f.name f.val 0 xs by rw[zi];exact Tj);clear zi Tj;go_upto_region 16 with(go_at_call 152;(with_reducible refine(P7.out 1 rfl).mono ?_);rintro e w6 ⟨rfl,hw6⟩;rw[hw6];clear hw6)
      go_region_held3 (fun W':World=>W'.cell? ⟨b,o,none⟩=some (.int .i64 f.op)/\W'.cell? ⟨b,o+1,none⟩=some (.string f.name)/\W'.cell? ⟨b,o+2,none⟩=some (.int .i64 f.val)/\W'.cell? ⟨kb,0,none⟩=some (.slice (some ⟨b2,o2,none⟩) f.args.length f.args.length))
       (first|(go_keep;done))
       (fail)
      all_goals
       refine yw fun W8 uw=>?_
       have hcE:aF (fun x=>x=w.heap.size) W3 W8:=by
        rw[uw]
        first|exact aN _ _ _ _ _ _ _|exact(aN _ _ _ _ _ _ _).drew|exact((aF.refl (fun x=>x=w.heap.size) W3).drew).trans (aN _ _ _ _ _ _ _)|exact((aF.refl (fun x=>x=w.heap.size) W3).drewN _).trans (aN _ _ _ _ _ _ _)
       have iY:OB W8 w.heap.size f.op f.name f.val 0 (some ⟨b2,o2,none⟩) f.args.length f.args.length:=by
        rw[uw]
        first|exact bC HR3.out|exact bC (OB.below HR3.out ((Below.refl _ _).drew))|exact bC (OB.below HR3.out ((Below.refl _ _).drewN _))
       have lF:Below w.heap.size w W8:=HB3.out.trans (hcE.below (B:=w.heap.size) (fun x hx h=>by omega) HB3.out.size)
       have hnew:lT (bP f) w (.agg #[.int .i64 f.op,.string f.name,.int .i64 f.val,.int .i64 0,.slice (some ⟨b2,o2,none⟩) f.args.length f.args.length]) W8:=by
        rw[EC.out];exact⟨lF,(some ⟨b2,o2,none⟩),f.args.length,by rw[qy.out];rfl,(nY.out.nw hcE fun x h=>by have:x=w.heap.size:=h;have:=yK.out;omega).base HB.out.size⟩
       obtain⟨y0,y1,y2,y3,y4,yl⟩:=iY.cells;clear uw hcE iY lF r0 r1 r2 r3 r4 u0 u1 u2 u3 u4 p0 p1 p2 p3 p4 hkc;go_wp2_with fail
       exact bodyPost_ret (v := .agg #[.int .i64 (f.op),.string f.name,.int .i64 (f.val),.int .i64 (0),.slice (some ⟨b2,o2,none⟩) (f.args.length) (f.args.length)]) (by simp[results,Tryz.results125,go_sem,y0,y1,y2,y3,y4]) rfl ⟨_,rfl,hnew⟩
    ·have zu:oW f.op f.name f.val xs=g1:=by
      unfold oW;rw[if_neg HNJ.out,if_neg (fun h=>by omega),if_pos (by rw[yL.out];exact⟨hop,.inl hc⟩)];exact yL.out
     have HRG:=Xw;have P7:=hid (fun k (hk:k=((1:Nat):Int))=>lD xs (some ⟨b2,o2,none⟩) f.args.length f.args.length kb 1 k W3 nY.out qy.out (by have:=qy.out;omega) hk hkc true (by rw[yL.out,hc]));clear hc hop;have EC:=hid (show bP f=g1 by rw[zi];exact zu);clear zi zu;go_wp2_with (go_at_call 152;(with_reducible refine(P7.out 1 rfl).mono ?_);rintro e w6 ⟨rfl,hw6⟩;rw[hw6];clear hw6)
     refine aJ fun WE fB=>?_;have hcE:aF (fun x=>x=w.heap.size) W3 WE:=by rw[fB];exact aN _ _ _ _ _ _ _
     have iY:OB WE w.heap.size g1.op g1.name g1.val g1.bound A9 g1.args.length c9:=by rw[fB];exact bC HR3.out
     have lF:Below w.heap.size w WE:=HB3.out.trans (hcE.below (B:=w.heap.size) (fun x hx h=>by omega) HB3.out.size)
     have hnew:lT (bP f) w (.agg #[.int .i64 g1.op,.string g1.name,.int .i64 g1.val,.int .i64 g1.bound,.slice A9 g1.args.length c9]) WE:=by
      rw[EC.out];exact⟨lF,A9,c9,rfl,(HRG.out.nw hcE fun x h=>by have:x=w.heap.size:=h;have:=yK.out;omega).base HB.out.size⟩
     obtain⟨y0,y1,y2,y3,y4,yl⟩:=iY.cells;clear fB hcE iY lF r0 r1 r2 r3 r4 u0 u1 u2 u3 u4 p0 p1 p2 p3 p4 hkc;exact bodyPost_ret (v := .agg #[.int .i64 (g1.op),.string g1.name,.int .i64 (g1.val),.int .i64 (g1.bound),.slice A9 (g1.args.length) (c9)]) (by simp[results,Tryz.results125,go_sem,y0,y1,y2,y3,y4]) rfl ⟨_,rfl,hnew⟩
   ·have d9:(f.op==9)=false:=au hop
    have h9:=hop;clear hop
    by_cases hop:f.op=10
    ·have d10:(f.op==10)=true:=by rw[hop];rfl
     have hl1:1<f.args.length:=L9.out (by omega);obtain⟨b2,o2,A8,c8,g0,rfl,HX0,hg0⟩:=nY.out.get (k:=0) (by have:=qy.out;omega);have EL:=hid HX0.out;have HG0:=hid hg0;obtain⟨t1,t2,x0,x1,x2,x3,x4,t3⟩:=hg0;have qda:=hid t3;simp only[Nat.zero_mul,Nat.add_zero]at x0 x1 x2 x3 x4;clear HX0 t3 t1;obtain⟨b9,o9,A9,c9,g1,e9,uU,hg1⟩:=nY.out.get (k:=1) (by have:=qy.out;omega)
     injection e9 with e9
     injection e9 with e9a e9b
     subst e9a e9b;have yL:=hid uU.out;obtain⟨t4,t5,w0,w1,w2',w3,w4,t6⟩:=hg1;have Xw:=hid t6;simp only[Nat.one_mul]at w0 w1 w2' w3 w4;clear uU t6 t4;have hl0:(0:Int)<f.args.length:=by omega
     have hl2:(1:Int)<f.args.length:=by omega
     cases hc:isC g1
     ·by_cases hk:g0.op=1
      ·have dk:(g0.op==1)=true:=by rw[hk];rfl
       have zu:oW f.op f.name f.val xs=g1:=by
        unfold oW;rw[if_neg HNJ.out,if_neg (fun h=>by omega),if_neg (fun h=>by omega),if_pos (by rw[EL.out];exact⟨hop,.inr hk⟩)];exact yL.out
       have HRG:=Xw;have P7:=hid (fun k (hk:k=((1:Nat):Int))=>lD xs (some ⟨b2,o2,none⟩) f.args.length f.args.length kb 1 k W3 nY.out qy.out (by have:=qy.out;omega) hk hkc false (by rw[yL.out,hc]));clear hc hk hop;have EC:=hid (show bP f=g1 by rw[zi];exact zu);clear zi zu;go_wp2_with (go_at_call 152;(with_reducible refine(P7.out 1 rfl).mono ?_);rintro e w6 ⟨rfl,hw6⟩;rw[hw6];clear hw6)
       refine aJ fun WE fB=>?_;have hcE:aF (fun x=>x=w.heap.size) W3 WE:=by rw[fB];exact aN _ _ _ _ _ _ _
       have iY:OB WE w.heap.size g1.op g1.name g1.val g1.bound A9 g1.args.length c9:=by rw[fB];exact bC HR3.out
       have lF:Below w.heap.size w WE:=HB3.out.trans (hcE.below (B:=w.heap.size) (fun x hx h=>by omega) HB3.out.size)
       have hnew:lT (bP f) w (.agg #[.int .i64 g1.op,.string g1.name,.int .i64 g1.val,.int .i64 g1.bound,.slice A9 g1.args.length c9]) WE:=by
        rw[EC.out];exact⟨lF,A9,c9,rfl,(HRG.out.nw hcE fun x h=>by have:x=w.heap.size:=h;have:=yK.out;omega).base HB.out.size⟩
       obtain⟨y0,y1,y2,y3,y4,yl⟩:=iY.cells;clear fB hcE iY lF r0 r1 r2 r3 r4 u0 u1 u2 u3 u4 p0 p1 p2 p3 p4 hkc;exact bodyPost_ret (v := .agg #[.int .i64 (g1.op),.string g1.name,.int .i64 (g1.val),.int .i64 (g1.bound),.slice A9 (g1.args.length) (c9)]) (by simp[results,Tryz.results125,go_sem,y0,y1,y2,y3,y4]) rfl ⟨_,rfl,hnew⟩
      ·have dk:(g0.op==1)=false:=au hk
       have Tj:oW f.op f.name f.val xs = .mk f.op f.name f.val 0 xs:=by
        unfold oW;rw[if_neg HNJ.out,if_neg (fun h=>by omega),if_neg (fun h=>by omega),if_neg (by rw[EL.out,yL.out,hc];rintro⟨_,h|h⟩;exact Bool.false_ne_true h;exact hk h)]
       have P7:=hid (fun k (hk:k=((1:Nat):Int))=>lD xs (some ⟨b2,o2,none⟩) f.args.length f.args.length kb 1 k W3 nY.out qy.out (by have:=qy.out;omega) hk hkc false (by rw[yL.out,hc]));clear hc hk hop;have EC:=hid (show bP f = .mk f.op f.name f.val 0 xs by rw[zi];exact Tj);clear zi Tj;go_upto_region 16 with(go_at_call 152;(with_reducible refine(P7.out 1 rfl).mono ?_);rintro e w6 ⟨rfl,hw6⟩;rw[hw6];clear hw6)
       go_region_held3 (fun W':World=>W'.cell? ⟨b,o,none⟩=some (.int .i64 f.op)/\W'.cell? ⟨b,o+1,none⟩=some (.string f.name)/\W'.cell? ⟨b,o+2,none⟩=some (.int .i64 f.val)/\W'.cell? ⟨kb,0,none⟩=some (.slice (some ⟨b2,o2,none⟩) f.args.length f.args.length))
        (first|(go_keep;done))
        (fail)
       all_goals
        refine yw fun W8 uw=>?_
        have hcE:aF (fun x=>x=w.heap.size) W3 W8:=by
         rw[uw]
         first|exact aN _ _ _ _ _ _ _|exact(aN _ _ _ _ _ _ _).drew|exact((aF.refl (fun x=>x=w.heap.size) W3).drew).trans (aN _ _ _ _ _ _ _)|exact((aF.refl (fun x=>x=w.heap.size) W3).drewN _).trans (aN _ _ _ _ _ _ _)
        have iY:OB W8 w.heap.size f.op f.name f.val 0 (some ⟨b2,o2,none⟩) f.args.length f.args.length:=by
         rw[uw]
         first|exact bC HR3.out|exact bC (OB.below HR3.out ((Below.refl _ _).drew))|exact bC (OB.below HR3.out ((Below.refl _ _).drewN _))
        have lF:Below w.heap.size w W8:=HB3.out.trans (hcE.below (B:=w.heap.size) (fun x hx h=>by omega) HB3.out.size)
        have hnew:lT (bP f) w (.agg #[.int .i64 f.op,.string f.name,.int .i64 f.val,.int .i64 0,.slice (some ⟨b2,o2,none⟩) f.args.length f.args.length]) W8:=by
         rw[EC.out];exact⟨lF,(some ⟨b2,o2,none⟩),f.args.length,by rw[qy.out];rfl,(nY.out.nw hcE fun x h=>by have:x=w.heap.size:=h;have:=yK.out;omega).base HB.out.size⟩
        obtain⟨y0,y1,y2,y3,y4,yl⟩:=iY.cells;clear uw hcE iY lF r0 r1 r2 r3 r4 u0 u1 u2 u3 u4 p0 p1 p2 p3 p4 hkc;go_wp2_with fail
        exact bodyPost_ret (v := .agg #[.int .i64 (f.op),.string f.name,.int .i64 (f.val),.int .i64 (0),.slice (some ⟨b2,o2,none⟩) (f.args.length) (f.args.length)]) (by simp[results,Tryz.results125,go_sem,y0,y1,y2,y3,y4]) rfl ⟨_,rfl,hnew⟩
     ·have zu:oW f.op f.name f.val xs=g1:=by
       unfold oW;rw[if_neg HNJ.out,if_neg (fun h=>by omega),if_neg (fun h=>by omega),if_pos (by rw[yL.out];exact⟨hop,.inl hc⟩)];exact yL.out
      have HRG:=Xw;have P7:=hid (fun k (hk:k=((1:Nat):Int))=>lD xs (some ⟨b2,o2,none⟩) f.args.length f.args.length kb 1 k W3 nY.out qy.out (by have:=qy.out;omega) hk hkc true (by rw[yL.out,hc]));clear hc hop;have EC:=hid (show bP f=g1 by rw[zi];exact zu);clear zi zu;go_wp2_with (go_at_call 152;(with_reducible refine(P7.out 1 rfl).mono ?_);rintro e w6 ⟨rfl,hw6⟩;rw[hw6];clear hw6)
      refine aJ fun WE fB=>?_;have hcE:aF (fun x=>x=w.heap.size) W3 WE:=by rw[fB];exact aN _ _ _ _ _ _ _
      have iY:OB WE w.heap.size g1.op g1.name g1.val g1.bound A9 g1.args.length c9:=by rw[fB];exact bC HR3.out
      have lF:Below w.heap.size w WE:=HB3.out.trans (hcE.below (B:=w.heap.size) (fun x hx h=>by omega) HB3.out.size)
      have hnew:lT (bP f) w (.agg #[.int .i64 g1.op,.string g1.name,.int .i64 g1.val,.int .i64 g1.bound,.slice A9 g1.args.length c9]) WE:=by
       rw[EC.out];exact⟨lF,A9,c9,rfl,(HRG.out.nw hcE fun x h=>by have:x=w.heap.size:=h;have:=yK.out;omega).base HB.out.size⟩
      obtain⟨y0,y1,y2,y3,y4,yl⟩:=iY.cells;clear fB hcE iY lF r0 r1 r2 r3 r4 u0 u1 u2 u3 u4 p0 p1 p2 p3 p4 hkc;exact bodyPost_ret (v := .agg #[.int .i64 (g1.op),.string g1.name,.int .i64 (g1.val),.int .i64 (g1.bound),.slice A9 (g1.args.length) (c9)]) (by simp[results,Tryz.results125,go_sem,y0,y1,y2,y3,y4]) rfl ⟨_,rfl,hnew⟩
    ·have d10:(f.op==10)=false:=au hop
     have Tj:oW f.op f.name f.val xs = .mk f.op f.name f.val 0 xs:=by
      unfold oW;rw[if_neg HNJ.out,if_neg (fun h=>h8 h.1),if_neg (fun h=>h9 h.1),if_neg (fun h=>hop h.1)]
     clear h8 h9 hop;have EC:=hid (show bP f = .mk f.op f.name f.val 0 xs by rw[zi];exact Tj);clear zi Tj;go_upto_region 16 with(fail)
     go_region_held3 (fun W':World=>W'.cell? ⟨b,o,none⟩=some (.int .i64 f.op)/\W'.cell? ⟨b,o+1,none⟩=some (.string f.name)/\W'.cell? ⟨b,o+2,none⟩=some (.int .i64 f.val)/\W'.cell? ⟨kb,0,none⟩=some (.slice A2 f.args.length f.args.length))
      (first|(go_keep;done))
      (fail)
     all_goals
      refine yw fun W8 uw=>?_
      have hcE:aF (fun x=>x=w.heap.size) W3 W8:=by
       rw[uw]
       first|exact aN _ _ _ _ _ _ _|exact(aN _ _ _ _ _ _ _).drew|exact((aF.refl (fun x=>x=w.heap.size) W3).drew).trans (aN _ _ _ _ _ _ _)|exact((aF.refl (fun x=>x=w.heap.size) W3).drewN _).trans (aN _ _ _ _ _ _ _)
      have iY:OB W8 w.heap.size f.op f.name f.val 0 A2 f.args.length f.args.length:=by
       rw[uw]
       first|exact bC HR3.out|exact bC (OB.below HR3.out ((Below.refl _ _).drew))|exact bC (OB.below HR3.out ((Below.refl _ _).drewN _))
      have lF:Below w.heap.size w W8:=HB3.out.trans (hcE.below (B:=w.heap.size) (fun x hx h=>by omega) HB3.out.size)
      have hnew:lT (bP f) w (.agg #[.int .i64 f.op,.string f.name,.int .i64 f.val,.int .i64 0,.slice A2 f.args.length f.args.length]) W8:=by
       rw[EC.out];exact⟨lF,A2,f.args.length,by rw[qy.out];rfl,(nY.out.nw hcE fun x h=>by have:x=w.heap.size:=h;have:=yK.out;omega).base HB.out.size⟩
      obtain⟨y0,y1,y2,y3,y4,yl⟩:=iY.cells;clear uw hcE iY lF r0 r1 r2 r3 r4 u0 u1 u2 u3 u4 p0 p1 p2 p3 p4 hkc;go_wp2_with fail
      exact bodyPost_ret (v := .agg #[.int .i64 (f.op),.string f.name,.int .i64 (f.val),.int .i64 (0),.slice A2 (f.args.length) (f.args.length)]) (by simp[results,Tryz.results125,go_sem,y0,y1,y2,y3,y4]) rfl ⟨_,rfl,hnew⟩
theorem UM (f:Fm):∀ins,allI bU ins f->f.size<=1000000->JO f:=by
 induction f using Fm.ind with
 | h f ih =>
  intro ins hb hz;have hs:=Fm.size_eq f;exact Qz f (fun g hg=>ih g hg _ ((dK.1 hb).2 g hg) (by have:=gJ hg;omega)) ins hb hz
end Go.Proofs.YtdpbgcmfeajigaaGreatDoor
