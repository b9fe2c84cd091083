/-
  Walk of canon.
-/
import Derived.Test.YtdpbgcmfeajigaaGreatDoorA18
set_option linter.unusedSimpArgs false
set_option linter.unusedVariables false
set_option maxHeartbeats 8000000
set_option maxRecDepth 100000
namespace Go.Proofs.YtdpbgcmfeajigaaGreatDoor
open Go.RowKit Go.Shelf
attribute [local go_sem] ak jR run_store_func
theorem QL (f:Fm)(ih:∀g,g∈f.args->JX g)(ins:Bool)(hbare:allI bU ins f)(hz:f.size<=1000000):JX f:=by
 intro D b o A c w h;have hmf:∀(fn:Fn) (first cap:Array Value) (w:World),(Instr.makeFunc fn first cap).run Tryz.prog w = .ok (.func fn first cap) w := λ _ _ _ _=>rfl;have ecl:∀args W,(callFunc 152 args).run Tryz.prog W = .ok (.enter 152 args) W:=enters_of Tryz.func152 (by kernel_rfl) rfl;have HH:=hid h.old;have zQ:=hid (xW f);have hsz:=Fm.size_eq f;have hal:=ji f.args;obtain⟨h1,h2⟩:=dL.1 hbare;obtain⟨k1,k2,k3,k4⟩:=jE h1;obtain⟨s1,s2,s3,s4,s5,s6,s7,s8⟩:=jo k2;have L8:=hid (show f.op=8->0<f.args.length from λ e=>by rw[e]at s2;exact s2);have L9:=hid (show f.op=9\/f.op=10->1<f.args.length from λ e=>by rcases e with e|e <;> (rw[e]at s2;exact s2));obtain⟨xs,has⟩:∃xs,xs=f.args.map bV:=⟨_,rfl⟩
 have uM:=hid (show f.args.length=xs.length by rw[has];simp)
 have jI:=hid (show sizes xs<=1000000 by
  have:=qA (g:=bV) (l:=f.args) λ x _=>Dx x
  rw[has];omega)
 have uJ:=hid (show f.op=5\/f.op=6->∀g,g∈xs->allI bU ins g from λ hop g hg=>by
  rw[has]at hg;obtain⟨x,hx,rfl⟩:=List.mem_map.1 hg
  have hp:(aJ f.op).past=false:=by rcases hop with e|e <;> rw[e] <;> rfl
  have:=h2 x hx;rw[hp,Bool.or_false]at this
  exact Dw x _ this (Uo (by have:=gq hx;omega)))
 have HAS:=hid has;have hfl:f.args.length<=1000000:=by omega
 rw[<-has]at zQ;clear has h1 h2 k1 k2 k3 k4 s1 s2 s3 s4 s5 s6 s7 s8 hbare h hsz hal hz
 go_enter Tryz.func125,Tryz.ntmps125
 go_upto_region 1 with(fail)
 refine aC λ W hW=>?_;have HB:=hid (show Below w.heap.size w W by rw[hW];go_grown);have HR:=hid (show OB W w.heap.size 0 ⟨#[]⟩ 0 0 none 0 0 by rw[hW];exact at_new _ _ _ rfl);have zk:=hid (show W.heap.size=w.heap.size+1 by rw[hW];simp);have HF:=hid (HH.out.keep (Keeps.of_below HB.out λ _ h=>h));have HC:=hid (QM HF.out.args rfl hfl ih);clear hW ih;obtain⟨q1,q2,p0,p1,p2,p3,p4,q3⟩:=HF.out;clear q3;go_upto_region 2 with(go_at_call 151;refine HC.out.mono ?_;rintro e w2 ⟨A2,rfl,ha2,hb2⟩)
 refine aC λ W3 hW3=>?_;obtain⟨kb,hkb⟩:∃kb,kb=w2.heap.size:=⟨_,rfl⟩;rw[<-hkb];have hkc:W3.cell? ⟨kb,0,none⟩=some (.slice A2 f.args.length f.args.length):=by rw[hW3];exact aj (at_new _ _ _ hkb) (i:=0) rfl
 have hkl:kb<W3.heap.size:=by rw[hW3,hkb];simp
 have XC:=hid (show Below W.heap.size W W3 by rw[hW3];exact hb2.alloc hb2.size _);have HB3:=hid (HB.out.trans (XC.out.mono HB.out.size));have pJ:=hid (show bZ W3 (Nw W.heap.size W3) xs A2 f.args.length from by rw[<-HAS.out]at ha2;exact ha2.nw (V := λ _=>False) (by rw[hW3];exact(aH.refl _ w2).alloc _) λ _ h=>h.elim);have HR3:=hid (HR.out.below XC.out);have HF3:=hid (HF.out.keep (Keeps.of_below XC.out λ k hk=>by have:=zk.out;omega));have hkw:W.heap.size<=kb:=by rw[hkb];exact hb2.size
 have hkw1:¬w.heap.size=kb:=by have:=zk.out;omega
 have hkw2:¬kb=w.heap.size := λ e=>hkw1 e.symm;have hbw:b<w.heap.size:=q1;have hbk:¬b=kb:=by have:=zk.out;omega
 have hbk2:¬kb=b := λ e=>hbk e.symm;have hbr:¬b=w.heap.size:=by omega
 have hbr2:¬w.heap.size=b := λ e=>hbr e.symm;clear hW3 hkb hb2 ha2 HC p0 p1 p2 p3 p4 q1 q2;obtain⟨q1,q2,p0,p1,p2,p3,p4,q3⟩:=HF3.out;obtain⟨r0,r1,r2,r3,r4,rl⟩:=HR3.out.cells;have u0:=HR3.out.free 0;have u1:=HR3.out.free 1;have u2:=HR3.out.free 2;have u3:=HR3.out.free 3;have u4:=HR3.out.free 4;clear q3 q1
 by_cases hop:f.op=5\/f.op=6
 ·rcases hop with e|e
  ·have d5:(f.op==5)=true:=by rw[e];rfl
   have hop:f.op=5\/f.op=6 := .inl e;clear e;have EM:=hid (show bV f=qg f.op xs by rw[zQ];unfold pR;rw[if_pos hop]);have vO:=hid (uJ.out hop);have UG:=hid (zx hop vO.out)
   have HJ:=hid (show∀W',aU W3 W'->Calls Tryz.prog 153 #[.int .i64 f.op,.slice A2 f.args.length f.args.length] W' λ e w'=>∃v,e = .returned v/\bI w' (Nw W.heap.size w') v (qg f.op xs)/\Below W3.heap.size W3 w' from λ W' hd=>(NV (base:=W.heap.size) (pJ.out.nw ((aH.refl (λ _=>False) W3).drawn hd) λ _ h=>h.elim) uM.out hop (Nat.le_trans XC.out.size (hd.below 0).size) jI.out (λ x hx h4=>Nb (UG.out x hx) h4) (λ x hx=>⟨_,Fa MZ (UG.out x hx)⟩)).mono (by
    rintro e w' ⟨v,rfl,hv,hb⟩
    exact⟨v,rfl,hv,(hd.below _).trans (hb.mono (hd.below 0).size)⟩))
   have aI:=hid (show∀W',Below W3.heap.size W3 W'->W'.cell? ⟨b,o,none⟩=some (.int .i64 f.op)/\W'.cell? ⟨kb,0,none⟩=some (.slice A2 f.args.length f.args.length)from λ W' hb=>⟨(hb.cell (p:=⟨b,o,none⟩) q2).trans p0,(hb.cell (p:=⟨kb,0,none⟩) hkl).trans hkc⟩);clear hop zQ;go_upto_region 6 with(fail)
   go_region_held3 (λ W':World=>W'.cell? ⟨b,o,none⟩=some (.int .i64 f.op)/\W'.cell? ⟨kb,0,none⟩=some (.slice A2 f.args.length f.args.length))
    (first|(with_reducible exact aI.out _ hb5)|(go_keep;done))
    ((go_at_call 153;(with_reducible refine(HJ.out _ (by first|exact aU.refl _|exact(aU.refl _).drew|exact(aU.refl _).drewN _)).mono ?_);rintro e w5 ⟨v,rfl,⟨A5,c5,rfl,VB⟩,hb5⟩;have HA5:=hid VB;have Px:=hid hb5;have LV:=hid (HR3.out.below hb5);clear VB;obtain⟨z0,z1,z2,z3,z4,zl⟩:=LV.out.cells;have v0:=LV.out.free 0;have v1:=LV.out.free 1;have v2:=LV.out.free 2;have v3:=LV.out.free 3;have v4:=LV.out.free 4))
   all_goals
    refine yS λ W8 uV=>?_;obtain⟨g,hg⟩:∃g,g=qg f.op xs:=⟨_,rfl⟩;rw[<-hg]at uV HA5 EM;have hcE:aH (λ x=>x=w.heap.size) w5 W8:=by rw[uV];exact aN _ _ _ _ _ _ _
    have jl:OB W8 w.heap.size g.op g.name g.val g.bound A5 g.args.length c5:=by rw[uV];exact bF LV.out
    have mO:Below w.heap.size w W8:=(HB3.out.trans (Px.out.mono HB3.out.size)).trans (hcE.below (B:=w.heap.size) (λ x hx h=>by omega) (Nat.le_trans HB3.out.size Px.out.size))
    have hnew:mX (bV f) w (.agg #[.int .i64 g.op,.string g.name,.int .i64 g.val,.int .i64 g.bound,.slice A5 g.args.length c5]) W8:=by
     rw[EM.out];exact⟨mO,A5,c5,rfl,(HA5.out.nw hcE λ x h=>by have:x=w.heap.size:=h;have:=zk.out;omega).base HB.out.size⟩
    obtain⟨y0,y1,y2,y3,y4,yl⟩:=jl.cells;clear uV hcE jl mO r0 r1 r2 r3 r4 u0 u1 u2 u3 u4 z0 z1 z2 z3 z4 v0 v1 v2 v3 v4 p0 p1 p2 p3 p4 hkc;go_wp2_with fail
    exact bodyPost_ret (v := .agg #[.int .i64 (g.op),.string g.name,.int .i64 (g.val),.int .i64 (g.bound),.slice A5 (g.args.length) (c5)]) (by simp[results,Tryz.results125,go_sem,y0,y1,y2,y3,y4]) rfl ⟨_,rfl,hnew⟩
  ·have d5:(f.op==5)=false:=by rw[e];rfl
   have d6:(f.op==6)=true:=by rw[e];rfl
   have hop:f.op=5\/f.op=6 := .inr e;clear e;have EM:=hid (show bV f=qg f.op xs by rw[zQ];unfold pR;rw[if_pos hop]);have vO:=hid (uJ.out hop);have UG:=hid (zx hop vO.out)
   have HJ:=hid (show∀W',aU W3 W'->Calls Tryz.prog 153 #[.int .i64 f.op,.slice A2 f.args.length f.args.length] W' λ e w'=>∃v,e = .returned v/\bI w' (Nw W.heap.size w') v (qg f.op xs)/\Below W3.heap.size W3 w' from λ W' hd=>(NV (base:=W.heap.size) (pJ.out.nw ((aH.refl (λ _=>False) W3).drawn hd) λ _ h=>h.elim) uM.out hop (Nat.le_trans XC.out.size (hd.below 0).size) jI.out (λ x hx h4=>Nb (UG.out x hx) h4) (λ x hx=>⟨_,Fa MZ (UG.out x hx)⟩)).mono (by
    rintro e w' ⟨v,rfl,hv,hb⟩
    exact⟨v,rfl,hv,(hd.below _).trans (hb.mono (hd.below 0).size)⟩))
   have aI:=hid (show∀W',Below W3.heap.size W3 W'->W'.cell? ⟨b,o,none⟩=some (.int .i64 f.op)/\W'.cell? ⟨kb,0,none⟩=some (.slice A2 f.args.length f.args.length)from λ W' hb=>⟨(hb.cell (p:=⟨b,o,none⟩) q2).trans p0,(hb.cell (p:=⟨kb,0,none⟩) hkl).trans hkc⟩);clear hop zQ;go_upto_region 6 with(fail)
   go_region_held3 (λ W':World=>W'.cell? ⟨b,o,none⟩=some (.int .i64 f.op)/\W'.cell? ⟨kb,0,none⟩=some (.slice A2 f.args.length f.args.length))
    (first|(with_reducible exact aI.out _ hb5)|(go_keep;done))
    ((go_at_call 153;(with_reducible refine(HJ.out _ (by first|exact aU.refl _|exact(aU.refl _).drew|exact(aU.refl _).drewN _)).mono ?_);rintro e w5 ⟨v,rfl,⟨A5,c5,rfl,VB⟩,hb5⟩;have HA5:=hid VB;have Px:=hid hb5;have LV:=hid (HR3.out.below hb5);clear VB;obtain⟨z0,z1,z2,z3,z4,zl⟩:=LV.out.cells;have v0:=LV.out.free 0;have v1:=LV.out.free 1;have v2:=LV.out.free 2;have v3:=LV.out.free 3;have v4:=LV.out.free 4))
   all_goals
    refine yS λ W8 uV=>?_;obtain⟨g,hg⟩:∃g,g=qg f.op xs:=⟨_,rfl⟩;rw[<-hg]at uV HA5 EM;have hcE:aH (λ x=>x=w.heap.size) w5 W8:=by rw[uV];exact aN _ _ _ _ _ _ _
    have jl:OB W8 w.heap.size g.op g.name g.val g.bound A5 g.args.length c5:=by rw[uV];exact bF LV.out
    have mO:Below w.heap.size w W8:=(HB3.out.trans (Px.out.mono HB3.out.size)).trans (hcE.below (B:=w.heap.size) (λ x hx h=>by omega) (Nat.le_trans HB3.out.size Px.out.size))
    have hnew:mX (bV f) w (.agg #[.int .i64 g.op,.string g.name,.int .i64 g.val,.int .i64 g.bound,.slice A5 g.args.length c5]) W8:=by
     rw[EM.out];exact⟨mO,A5,c5,rfl,(HA5.out.nw hcE λ x h=>by have:x=w.heap.size:=h;have:=zk.out;omega).base HB.out.size⟩
    obtain⟨y0,y1,y2,y3,y4,yl⟩:=jl.cells;clear uV hcE jl mO r0 r1 r2 r3 r4 u0 u1 u2 u3 u4 z0 z1 z2 z3 z4 v0 v1 v2 v3 v4 p0 p1 p2 p3 p4 hkc;go_wp2_with fail
    exact bodyPost_ret (v := .agg #[.int .i64 (g.op),.string g.name,.int .i64 (g.val),.int .i64 (g.bound),.slice A5 (g.args.length) (c5)]) (by simp[results,Tryz.results125,go_sem,y0,y1,y2,y3,y4]) rfl ⟨_,rfl,hnew⟩
 ·have d5:(f.op==5)=false:=ay λ e=>hop (.inl e)
  have d6:(f.op==6)=false:=ay λ e=>hop (.inr e);have HNJ:=hid hop;clear hop
  by_cases h8:f.op=8
  ·have d8:(f.op==8)=true:=by rw[h8];rfl
   have hl0:0<f.args.length:=L8.out h8;obtain⟨b2,o2,A8,c8,g0,rfl,HX0,hg0⟩:=pJ.out.get (k:=0) (by have:=uM.out;omega);have EU:=hid HX0.out;have HG0:=hid hg0;obtain⟨t1,t2,x0,x1,x2,x3,x4,t3⟩:=hg0;have qdq:=hid t3;simp only[Nat.zero_mul,Nat.add_zero]at x0 x1 x2 x3 x4;clear HX0 t3 t1;have hl1:(0:Int)<f.args.length:=by omega
   cases hc:isC g0
   ·have MH:pR f.op f.name f.val xs = .mk f.op f.name f.val 0 xs:=by
     unfold pR;rw[if_neg HNJ.out,if_neg (by rw[EU.out,hc];exact λ h=>Bool.false_ne_true h.2),if_neg (λ h=>by omega),if_neg (λ h=>by omega)]
    have Qp:=hid (λ k (hk:k=((0:Nat):Int))=>mJ xs (some ⟨b2,o2,none⟩) f.args.length f.args.length kb 0 k W3 pJ.out uM.out (by have:=uM.out;omega) hk hkc false (by rw[EU.out,hc]));clear h8 hc;have EM:=hid (show bV f = .mk f.op f.name f.val 0 xs by rw[zQ];exact MH);clear zQ MH;go_upto_region 16 with(go_at_call 152;(with_reducible refine(Qp.out 0 rfl).mono ?_);rintro e w6 ⟨rfl,hw6⟩;rw[hw6];clear hw6)
    go_region_held3 (λ W':World=>W'.cell? ⟨b,o,none⟩=some (.int .i64 f.op)/\W'.cell? ⟨b,o+1,none⟩=some (.string f.name)/\W'.cell? ⟨b,o+2,none⟩=some (.int .i64 f.val)/\W'.cell? ⟨kb,0,none⟩=some (.slice (some ⟨b2,o2,none⟩) f.args.length f.args.length))
     (first|(go_keep;done))
     (fail)
    all_goals
     refine yS λ W8 uV=>?_
     have hcE:aH (λ x=>x=w.heap.size) W3 W8:=by
      rw[uV]
      first|exact aN _ _ _ _ _ _ _|exact(aN _ _ _ _ _ _ _).drew|exact((aH.refl (λ x=>x=w.heap.size) W3).drew).trans (aN _ _ _ _ _ _ _)|exact((aH.refl (λ x=>x=w.heap.size) W3).drewN _).trans (aN _ _ _ _ _ _ _)
     have jl:OB W8 w.heap.size f.op f.name f.val 0 (some ⟨b2,o2,none⟩) f.args.length f.args.length:=by
      rw[uV]
      first|exact bF HR3.out|exact bF (OB.below HR3.out ((Below.refl _ _).drew))|exact bF (OB.below HR3.out ((Below.refl _ _).drewN _))
     have mO:Below w.heap.size w W8:=HB3.out.trans (hcE.below (B:=w.heap.size) (λ x hx h=>by omega) HB3.out.size)
     have hnew:mX (bV f) w (.agg #[.int .i64 f.op,.string f.name,.int .i64 f.val,.int .i64 0,.slice (some ⟨b2,o2,none⟩) f.args.length f.args.length]) W8:=by
      rw[EM.out];exact⟨mO,(some ⟨b2,o2,none⟩),f.args.length,by rw[uM.out];rfl,(pJ.out.nw hcE λ x h=>by have:x=w.heap.size:=h;have:=zk.out;omega).base HB.out.size⟩
     obtain⟨y0,y1,y2,y3,y4,yl⟩:=jl.cells;clear uV hcE jl mO r0 r1 r2 r3 r4 u0 u1 u2 u3 u4 p0 p1 p2 p3 p4 hkc;go_wp2_with fail
     exact bodyPost_ret (v := .agg #[.int .i64 (f.op),.string f.name,.int .i64 (f.val),.int .i64 (0),.slice (some ⟨b2,o2,none⟩) (f.args.length) (f.args.length)]) (by simp[results,Tryz.results125,go_sem,y0,y1,y2,y3,y4]) rfl ⟨_,rfl,hnew⟩
   ·have zX:pR f.op f.name f.val xs=g0:=by
     unfold pR;rw[if_neg HNJ.out,if_pos (by rw[EU.out,hc];exact⟨h8,rfl⟩)];exact EU.out
    have LW:=qdq;have Qp:=hid (λ k (hk:k=((0:Nat):Int))=>mJ xs (some ⟨b2,o2,none⟩) f.args.length f.args.length kb 0 k W3 pJ.out uM.out (by have:=uM.out;omega) hk hkc true (by rw[EU.out,hc]));clear h8 hc;have EM:=hid (show bV f=g0 by rw[zQ];exact zX);clear zQ zX;go_wp2_with (go_at_call 152;(with_reducible refine(Qp.out 0 rfl).mono ?_);rintro e w6 ⟨rfl,hw6⟩;rw[hw6];clear hw6)
    refine aK λ WE fD=>?_;have hcE:aH (λ x=>x=w.heap.size) W3 WE:=by rw[fD];exact aN _ _ _ _ _ _ _
    have jl:OB WE w.heap.size g0.op g0.name g0.val g0.bound A8 g0.args.length c8:=by rw[fD];exact bF HR3.out
    have mO:Below w.heap.size w WE:=HB3.out.trans (hcE.below (B:=w.heap.size) (λ x hx h=>by omega) HB3.out.size)
    have hnew:mX (bV f) w (.agg #[.int .i64 g0.op,.string g0.name,.int .i64 g0.val,.int .i64 g0.bound,.slice A8 g0.args.length c8]) WE:=by
     rw[EM.out];exact⟨mO,A8,c8,rfl,(LW.out.nw hcE λ x h=>by have:x=w.heap.size:=h;have:=zk.out;omega).base HB.out.size⟩
    obtain⟨y0,y1,y2,y3,y4,yl⟩:=jl.cells;clear fD hcE jl mO r0 r1 r2 r3 r4 u0 u1 u2 u3 u4 p0 p1 p2 p3 p4 hkc;exact bodyPost_ret (v := .agg #[.int .i64 (g0.op),.string g0.name,.int .i64 (g0.val),.int .i64 (g0.bound),.slice A8 (g0.args.length) (c8)]) (by simp[results,Tryz.results125,go_sem,y0,y1,y2,y3,y4]) rfl ⟨_,rfl,hnew⟩
  ·have d8:(f.op==8)=false:=ay h8
   by_cases hop:f.op=9
   ·have d9:(f.op==9)=true:=by rw[hop];rfl
    have hl1:1<f.args.length:=L9.out (by omega);obtain⟨b2,o2,A8,c8,g0,rfl,HX0,hg0⟩:=pJ.out.get (k:=0) (by have:=uM.out;omega);have EU:=hid HX0.out;have HG0:=hid hg0;obtain⟨t1,t2,x0,x1,x2,x3,x4,t3⟩:=hg0;have qdq:=hid t3;simp only[Nat.zero_mul,Nat.add_zero]at x0 x1 x2 x3 x4;clear HX0 t3 t1;obtain⟨b9,o9,A9,c9,g1,e9,uK,hg1⟩:=pJ.out.get (k:=1) (by have:=uM.out;omega)
    injection e9 with e9
    injection e9 with e9a e9b
    subst e9a e9b;have zn:=hid uK.out;obtain⟨t4,t5,w0,w1,w2',w3,w4,t6⟩:=hg1;have XW:=hid t6;simp only[Nat.one_mul]at w0 w1 w2' w3 w4;clear uK t6 t4;have hl0:(0:Int)<f.args.length:=by omega
    have hl2:(1:Int)<f.args.length:=by omega
    cases hc:isC g1
    ·by_cases hk:g0.op=2
     ·have dk:(g0.op==2)=true:=by rw[hk];rfl
      have zX:pR f.op f.name f.val xs=g1:=by
       unfold pR;rw[if_neg HNJ.out,if_neg (λ h=>by omega),if_pos (by rw[EU.out];exact⟨hop,.inr hk⟩)];exact zn.out
      have LW:=XW;have Qp:=hid (λ k (hk:k=((1:Nat):Int))=>mJ xs (some ⟨b2,o2,none⟩) f.args.length f.args.length kb 1 k W3 pJ.out uM.out (by have:=uM.out;omega) hk hkc false (by rw[zn.out,hc]));clear hc hk hop;have EM:=hid (show bV f=g1 by rw[zQ];exact zX);clear zQ zX;go_wp2_with (go_at_call 152;(with_reducible refine(Qp.out 1 rfl).mono ?_);rintro e w6 ⟨rfl,hw6⟩;rw[hw6];clear hw6)
      refine aK λ WE fD=>?_;have hcE:aH (λ x=>x=w.heap.size) W3 WE:=by rw[fD];exact aN _ _ _ _ _ _ _
      have jl:OB WE w.heap.size g1.op g1.name g1.val g1.bound A9 g1.args.length c9:=by rw[fD];exact bF HR3.out
      have mO:Below w.heap.size w WE:=HB3.out.trans (hcE.below (B:=w.heap.size) (λ x hx h=>by omega) HB3.out.size)
      have hnew:mX (bV f) w (.agg #[.int .i64 g1.op,.string g1.name,.int .i64 g1.val,.int .i64 g1.bound,.slice A9 g1.args.length c9]) WE:=by
       rw[EM.out];exact⟨mO,A9,c9,rfl,(LW.out.nw hcE λ x h=>by have:x=w.heap.size:=h;have:=zk.out;omega).base HB.out.size⟩
      obtain⟨y0,y1,y2,y3,y4,yl⟩:=jl.cells;clear fD hcE jl mO r0 r1 r2 r3 r4 u0 u1 u2 u3 u4 p0 p1 p2 p3 p4 hkc;exact bodyPost_ret (v := .agg #[.int .i64 (g1.op),.string g1.name,.int .i64 (g1.val),.int .i64 (g1.bound),.slice A9 (g1.args.length) (c9)]) (by simp[results,Tryz.results125,go_sem,y0,y1,y2,y3,y4]) rfl ⟨_,rfl,hnew⟩
     ·have dk:(g0.op==2)=false:=ay hk
      have MH:pR f.op f.name f.val xs = .mk f.op f.name f.val 0 xs:=by
       unfold pR;rw[if_neg HNJ.out,if_neg (λ h=>by omega),if_neg (by rw[EU.out,zn.out,hc];rintro⟨_,h|h⟩;exact Bool.false_ne_true h;exact hk h),if_neg (λ h=>by omega)]
      have Qp:=hid (λ k (hk:k=((1:Nat):Int))=>mJ xs (some ⟨b2,o2,none⟩) f.args.length f.args.length kb 1 k W3 pJ.out uM.out (by have:=uM.out;omega) hk hkc false (by rw[zn.out,hc]));clear hc hk hop;have EM:=hid (show bV f = .mk f.op f.name f.val 0 xs by rw[zQ];exact MH);clear zQ MH;go_upto_region 16 with(go_at_call 152;(with_reducible refine(Qp.out 1 rfl).mono ?_);rintro e w6 ⟨rfl,hw6⟩;rw[hw6];clear hw6)
      go_region_held3 (λ W':World=>W'.cell? ⟨b,o,none⟩=some (.int .i64 f.op)/\W'.cell? ⟨b,o+1,none⟩=some (.string f.name)/\W'.cell? ⟨b,o+2,none⟩=some (.int .i64 f.val)/\W'.cell? ⟨kb,0,none⟩=some (.slice (some ⟨b2,o2,none⟩) f.args.length f.args.length))
       (first|(go_keep;done))
       (fail)
      all_goals
       refine yS λ W8 uV=>?_
       have hcE:aH (λ x=>x=w.heap.size) W3 W8:=by
        rw[uV]
        first|exact aN _ _ _ _ _ _ _|exact(aN _ _ _ _ _ _ _).drew|exact((aH.refl (λ x=>x=w.heap.size) W3).drew).trans (aN _ _ _ _ _ _ _)|exact((aH.refl (λ x=>x=w.heap.size) W3).drewN _).trans (aN _ _ _ _ _ _ _)
       have jl:OB W8 w.heap.size f.op f.name f.val 0 (some ⟨b2,o2,none⟩) f.args.length f.args.length:=by
        rw[uV]
        first|exact bF HR3.out|exact bF (OB.below HR3.out ((Below.refl _ _).drew))|exact bF (OB.below HR3.out ((Below.refl _ _).drewN _))
       have mO:Below w.heap.size w W8:=HB3.out.trans (hcE.below (B:=w.heap.size) (λ x hx h=>by omega) HB3.out.size)
       have hnew:mX (bV f) w (.agg #[.int .i64 f.op,.string f.name,.int .i64 f.val,.int .i64 0,.slice (some ⟨b2,o2,none⟩) f.args.length f.args.length]) W8:=by
        rw[EM.out];exact⟨mO,(some ⟨b2,o2,none⟩),f.args.length,by rw[uM.out];rfl,(pJ.out.nw hcE λ x h=>by have:x=w.heap.size:=h;have:=zk.out;omega).base HB.out.size⟩
       obtain⟨y0,y1,y2,y3,y4,yl⟩:=jl.cells;clear uV hcE jl mO r0 r1 r2 r3 r4 u0 u1 u2 u3 u4 p0 p1 p2 p3 p4 hkc;go_wp2_with fail
       exact bodyPost_ret (v := .agg #[.int .i64 (f.op),.string f.name,.int .i64 (f.val),.int .i64 (0),.slice (some ⟨b2,o2,none⟩) (f.args.length) (f.args.length)]) (by simp[results,Tryz.results125,go_sem,y0,y1,y2,y3,y4]) rfl ⟨_,rfl,hnew⟩
    ·have zX:pR f.op f.name f.val xs=g1:=by
      unfold pR;rw[if_neg HNJ.out,if_neg (λ h=>by omega),if_pos (by rw[zn.out];exact⟨hop,.inl hc⟩)];exact zn.out
     have LW:=XW;have Qp:=hid (λ k (hk:k=((1:Nat):Int))=>mJ xs (some ⟨b2,o2,none⟩) f.args.length f.args.length kb 1 k W3 pJ.out uM.out (by have:=uM.out;omega) hk hkc true (by rw[zn.out,hc]));clear hc hop;have EM:=hid (show bV f=g1 by rw[zQ];exact zX);clear zQ zX;go_wp2_with (go_at_call 152;(with_reducible refine(Qp.out 1 rfl).mono ?_);rintro e w6 ⟨rfl,hw6⟩;rw[hw6];clear hw6)
     refine aK λ WE fD=>?_;have hcE:aH (λ x=>x=w.heap.size) W3 WE:=by rw[fD];exact aN _ _ _ _ _ _ _
     have jl:OB WE w.heap.size g1.op g1.name g1.val g1.bound A9 g1.args.length c9:=by rw[fD];exact bF HR3.out
     have mO:Below w.heap.size w WE:=HB3.out.trans (hcE.below (B:=w.heap.size) (λ x hx h=>by omega) HB3.out.size)
     have hnew:mX (bV f) w (.agg #[.int .i64 g1.op,.string g1.name,.int .i64 g1.val,.int .i64 g1.bound,.slice A9 g1.args.length c9]) WE:=by
      rw[EM.out];exact⟨mO,A9,c9,rfl,(LW.out.nw hcE λ x h=>by have:x=w.heap.size:=h;have:=zk.out;omega).base HB.out.size⟩
     obtain⟨y0,y1,y2,y3,y4,yl⟩:=jl.cells;clear fD hcE jl mO r0 r1 r2 r3 r4 u0 u1 u2 u3 u4 p0 p1 p2 p3 p4 hkc;exact bodyPost_ret (v := .agg #[.int .i64 (g1.op),.string g1.name,.int .i64 (g1.val),.int .i64 (g1.bound),.slice A9 (g1.args.length) (c9)]) (by simp[results,Tryz.results125,go_sem,y0,y1,y2,y3,y4]) rfl ⟨_,rfl,hnew⟩
   ·have d9:(f.op==9)=false:=ay hop
    have h9:=hop;clear hop
    by_cases hop:f.op=10
    ·have d10:(f.op==10)=true:=by rw[hop];rfl
     have hl1:1<f.args.length:=L9.out (by omega);obtain⟨b2,o2,A8,c8,g0,rfl,HX0,hg0⟩:=pJ.out.get (k:=0) (by have:=uM.out;omega);have EU:=hid HX0.out;have HG0:=hid hg0;obtain⟨t1,t2,x0,x1,x2,x3,x4,t3⟩:=hg0;have qdq:=hid t3;simp only[Nat.zero_mul,Nat.add_zero]at x0 x1 x2 x3 x4;clear HX0 t3 t1;obtain⟨b9,o9,A9,c9,g1,e9,uK,hg1⟩:=pJ.out.get (k:=1) (by have:=uM.out;omega)
     injection e9 with e9
     injection e9 with e9a e9b
     subst e9a e9b;have zn:=hid uK.out;obtain⟨t4,t5,w0,w1,w2',w3,w4,t6⟩:=hg1;have XW:=hid t6;simp only[Nat.one_mul]at w0 w1 w2' w3 w4;clear uK t6 t4;have hl0:(0:Int)<f.args.length:=by omega
     have hl2:(1:Int)<f.args.length:=by omega
     cases hc:isC g1
     ·by_cases hk:g0.op=1
      ·have dk:(g0.op==1)=true:=by rw[hk];rfl
       have zX:pR f.op f.name f.val xs=g1:=by
        unfold pR;rw[if_neg HNJ.out,if_neg (λ h=>by omega),if_neg (λ h=>by omega),if_pos (by rw[EU.out];exact⟨hop,.inr hk⟩)];exact zn.out
       have LW:=XW;have Qp:=hid (λ k (hk:k=((1:Nat):Int))=>mJ xs (some ⟨b2,o2,none⟩) f.args.length f.args.length kb 1 k W3 pJ.out uM.out (by have:=uM.out;omega) hk hkc false (by rw[zn.out,hc]));clear hc hk hop;have EM:=hid (show bV f=g1 by rw[zQ];exact zX);clear zQ zX;go_wp2_with (go_at_call 152;(with_reducible refine(Qp.out 1 rfl).mono ?_);rintro e w6 ⟨rfl,hw6⟩;rw[hw6];clear hw6)
       refine aK λ WE fD=>?_;have hcE:aH (λ x=>x=w.heap.size) W3 WE:=by rw[fD];exact aN _ _ _ _ _ _ _
       have jl:OB WE w.heap.size g1.op g1.name g1.val g1.bound A9 g1.args.length c9:=by rw[fD];exact bF HR3.out
       have mO:Below w.heap.size w WE:=HB3.out.trans (hcE.below (B:=w.heap.size) (λ x hx h=>by omega) HB3.out.size)
       have hnew:mX (bV f) w (.agg #[.int .i64 g1.op,.string g1.name,.int .i64 g1.val,.int .i64 g1.bound,.slice A9 g1.args.length c9]) WE:=by
        rw[EM.out];exact⟨mO,A9,c9,rfl,(LW.out.nw hcE λ x h=>by have:x=w.heap.size:=h;have:=zk.out;omega).base HB.out.size⟩
       obtain⟨y0,y1,y2,y3,y4,yl⟩:=jl.cells;clear fD hcE jl mO r0 r1 r2 r3 r4 u0 u1 u2 u3 u4 p0 p1 p2 p3 p4 hkc;exact bodyPost_ret (v := .agg #[.int .i64 (g1.op),.string g1.name,.int .i64 (g1.val),.int .i64 (g1.bound),.slice A9 (g1.args.length) (c9)]) (by simp[results,Tryz.results125,go_sem,y0,y1,y2,y3,y4]) rfl ⟨_,rfl,hnew⟩
      ·have dk:(g0.op==1)=false:=ay hk
       have MH:pR f.op f.name f.val xs = .mk f.op f.name f.val 0 xs:=by
        unfold pR;rw[if_neg HNJ.out,if_neg (λ h=>by omega),if_neg (λ h=>by omega),if_neg (by rw[EU.out,zn.out,hc];rintro⟨_,h|h⟩;exact Bool.false_ne_true h;exact hk h)]
       have Qp:=hid (λ k (hk:k=((1:Nat):Int))=>mJ xs (some ⟨b2,o2,none⟩) f.args.length f.args.length kb 1 k W3 pJ.out uM.out (by have:=uM.out;omega) hk hkc false (by rw[zn.out,hc]));clear hc hk hop;have EM:=hid (show bV f = .mk f.op f.name f.val 0 xs by rw[zQ];exact MH);clear zQ MH;go_upto_region 16 with(go_at_call 152;(with_reducible refine(Qp.out 1 rfl).mono ?_);rintro e w6 ⟨rfl,hw6⟩;rw[hw6];clear hw6)
       go_region_held3 (λ W':World=>W'.cell? ⟨b,o,none⟩=some (.int .i64 f.op)/\W'.cell? ⟨b,o+1,none⟩=some (.string f.name)/\W'.cell? ⟨b,o+2,none⟩=some (.int .i64 f.val)/\W'.cell? ⟨kb,0,none⟩=some (.slice (some ⟨b2,o2,none⟩) f.args.length f.args.length))
        (first|(go_keep;done))
        (fail)
       all_goals
        refine yS λ W8 uV=>?_
        have hcE:aH (λ x=>x=w.heap.size) W3 W8:=by
         rw[uV]
         first|exact aN _ _ _ _ _ _ _|exact(aN _ _ _ _ _ _ _).drew|exact((aH.refl (λ x=>x=w.heap.size) W3).drew).trans (aN _ _ _ _ _ _ _)|exact((aH.refl (λ x=>x=w.heap.size) W3).drewN _).trans (aN _ _ _ _ _ _ _)
        have jl:OB W8 w.heap.size f.op f.name f.val 0 (some ⟨b2,o2,none⟩) f.args.length f.args.length:=by
         rw[uV]
         first|exact bF HR3.out|exact bF (OB.below HR3.out ((Below.refl _ _).drew))|exact bF (OB.below HR3.out ((Below.refl _ _).drewN _))
        have mO:Below w.heap.size w W8:=HB3.out.trans (hcE.below (B:=w.heap.size) (λ x hx h=>by omega) HB3.out.size)
        have hnew:mX (bV f) w (.agg #[.int .i64 f.op,.string f.name,.int .i64 f.val,.int .i64 0,.slice (some ⟨b2,o2,none⟩) f.args.length f.args.length]) W8:=by
         rw[EM.out];exact⟨mO,(some ⟨b2,o2,none⟩),f.args.length,by rw[uM.out];rfl,(pJ.out.nw hcE λ x h=>by have:x=w.heap.size:=h;have:=zk.out;omega).base HB.out.size⟩
        obtain⟨y0,y1,y2,y3,y4,yl⟩:=jl.cells;clear uV hcE jl mO r0 r1 r2 r3 r4 u0 u1 u2 u3 u4 p0 p1 p2 p3 p4 hkc;go_wp2_with fail
        exact bodyPost_ret (v := .agg #[.int .i64 (f.op),.string f.name,.int .i64 (f.val),.int .i64 (0),.slice (some ⟨b2,o2,none⟩) (f.args.length) (f.args.length)]) (by simp[results,Tryz.results125,go_sem,y0,y1,y2,y3,y4]) rfl ⟨_,rfl,hnew⟩
     ·have zX:pR f.op f.name f.val xs=g1:=by
       unfold pR;rw[if_neg HNJ.out,if_neg (λ h=>by omega),if_neg (λ h=>by omega),if_pos (by rw[zn.out];exact⟨hop,.inl hc⟩)];exact zn.out
      have LW:=XW;have Qp:=hid (λ k (hk:k=((1:Nat):Int))=>mJ xs (some ⟨b2,o2,none⟩) f.args.length f.args.length kb 1 k W3 pJ.out uM.out (by have:=uM.out;omega) hk hkc true (by rw[zn.out,hc]));clear hc hop;have EM:=hid (show bV f=g1 by rw[zQ];exact zX);clear zQ zX;go_wp2_with (go_at_call 152;(with_reducible refine(Qp.out 1 rfl).mono ?_);rintro e w6 ⟨rfl,hw6⟩;rw[hw6];clear hw6)
      refine aK λ WE fD=>?_;have hcE:aH (λ x=>x=w.heap.size) W3 WE:=by rw[fD];exact aN _ _ _ _ _ _ _
      have jl:OB WE w.heap.size g1.op g1.name g1.val g1.bound A9 g1.args.length c9:=by rw[fD];exact bF HR3.out
      have mO:Below w.heap.size w WE:=HB3.out.trans (hcE.below (B:=w.heap.size) (λ x hx h=>by omega) HB3.out.size)
      have hnew:mX (bV f) w (.agg #[.int .i64 g1.op,.string g1.name,.int .i64 g1.val,.int .i64 g1.bound,.slice A9 g1.args.length c9]) WE:=by
       rw[EM.out];exact⟨mO,A9,c9,rfl,(LW.out.nw hcE λ x h=>by have:x=w.heap.size:=h;have:=zk.out;omega).base HB.out.size⟩
      obtain⟨y0,y1,y2,y3,y4,yl⟩:=jl.cells;clear fD hcE jl mO r0 r1 r2 r3 r4 u0 u1 u2 u3 u4 p0 p1 p2 p3 p4 hkc;exact bodyPost_ret (v := .agg #[.int .i64 (g1.op),.string g1.name,.int .i64 (g1.val),.int .i64 (g1.bound),.slice A9 (g1.args.length) (c9)]) (by simp[results,Tryz.results125,go_sem,y0,y1,y2,y3,y4]) rfl ⟨_,rfl,hnew⟩
    ·have d10:(f.op==10)=false:=ay hop
     have MH:pR f.op f.name f.val xs = .mk f.op f.name f.val 0 xs:=by
      unfold pR;rw[if_neg HNJ.out,if_neg (λ h=>h8 h.1),if_neg (λ h=>h9 h.1),if_neg (λ h=>hop h.1)]
     clear h8 h9 hop;have EM:=hid (show bV f = .mk f.op f.name f.val 0 xs by rw[zQ];exact MH);clear zQ MH;go_upto_region 16 with(fail)
     go_region_held3 (λ W':World=>W'.cell? ⟨b,o,none⟩=some (.int .i64 f.op)/\W'.cell? ⟨b,o+1,none⟩=some (.string f.name)/\W'.cell? ⟨b,o+2,none⟩=some (.int .i64 f.val)/\W'.cell? ⟨kb,0,none⟩=some (.slice A2 f.args.length f.args.length))
      (first|(go_keep;done))
      (fail)
     all_goals
      refine yS λ W8 uV=>?_
      have hcE:aH (λ x=>x=w.heap.size) W3 W8:=by
       rw[uV]
       first|exact aN _ _ _ _ _ _ _|exact(aN _ _ _ _ _ _ _).drew|exact((aH.refl (λ x=>x=w.heap.size) W3).drew).trans (aN _ _ _ _ _ _ _)|exact((aH.refl (λ x=>x=w.heap.size) W3).drewN _).trans (aN _ _ _ _ _ _ _)
      have jl:OB W8 w.heap.size f.op f.name f.val 0 A2 f.args.length f.args.length:=by
       rw[uV]
       first|exact bF HR3.out|exact bF (OB.below HR3.out ((Below.refl _ _).drew))|exact bF (OB.below HR3.out ((Below.refl _ _).drewN _))
      have mO:Below w.heap.size w W8:=HB3.out.trans (hcE.below (B:=w.heap.size) (λ x hx h=>by omega) HB3.out.size)
      have hnew:mX (bV f) w (.agg #[.int .i64 f.op,.string f.name,.int .i64 f.val,.int .i64 0,.slice A2 f.args.length f.args.length]) W8:=by
       rw[EM.out];exact⟨mO,A2,f.args.length,by rw[uM.out];rfl,(pJ.out.nw hcE λ x h=>by have:x=w.heap.size:=h;have:=zk.out;omega).base HB.out.size⟩
      obtain⟨y0,y1,y2,y3,y4,yl⟩:=jl.cells;clear uV hcE jl mO r0 r1 r2 r3 r4 u0 u1 u2 u3 u4 p0 p1 p2 p3 p4 hkc;go_wp2_with fail
      exact bodyPost_ret (v := .agg #[.int .i64 (f.op),.string f.name,.int .i64 (f.val),.int .i64 (0),.slice A2 (f.args.length) (f.args.length)]) (by simp[results,Tryz.results125,go_sem,y0,y1,y2,y3,y4]) rfl ⟨_,rfl,hnew⟩
theorem Ve (f:Fm):∀ins,allI bU ins f->f.size<=1000000->JX f:=by
 induction f using Fm.ind with
 | h f ih =>
  intro ins hb hz;have hs:=Fm.size_eq f;exact QL f (λ g hg=>ih g hg _ ((dL.1 hb).2 g hg) (by have:=gq hg;omega)) ins hb hz
end Go.Proofs.YtdpbgcmfeajigaaGreatDoor
