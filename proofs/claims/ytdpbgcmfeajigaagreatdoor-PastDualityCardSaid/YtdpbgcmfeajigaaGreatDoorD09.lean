/-
  Walk of Compare.
-/
import Derived.Deep.LoopGhost
import Derived.Test.YtdpbgcmfeajigaaGreatDoorD08
set_option linter.unusedSimpArgs false
set_option linter.unusedVariables false
set_option maxHeartbeats 8000000
set_option maxRecDepth 100000
namespace Go.Proofs.YtdpbgcmfeajigaaGreatDoor
open Go.RowKit Go.Shelf
attribute [local go_sem] ak
theorem yx {K:Act->World->Prop}{a:Act}{w:World}(h:∀W,W=w->K a W):K a w:=h w rfl
theorem Vr:(Tryz.prog.info? 84).map (fun i=>(i.zero,i.size,i.bytes))=some (some (.agg #[.slice none 0 0,.slice none 0 0]),2,48):=by kernel_rfl
theorem Qa (A A':Option Addr)(n n' c c':Nat)(w:World):(Instr.build 84 #[(0,.slice A n c),(1,.slice A' n' c')]).run Tryz.prog w = .ok (.agg #[.slice A n c,.slice A' n' c']) w:=run_build w 84 _ _ (by kernel_rfl)
attribute [local go_sem] Qa
def tl (b o c:Nat):Option Addr:=if c=1 then some ⟨b,o,none⟩else some ⟨b,o+5,none⟩
theorem YV (b o n c:Nat)(w:World)(hn:n+1<=c):(Instr.slice 22 (.slice (some ⟨b,o,none⟩) (n+1) c) (some (.int .i64 1)) none none).run Tryz.prog w = .ok (.slice (tl b o c) n (c-1)) w:=by
 unfold tl;have hf:=Tryz.underlying22;have hsz:=Tryz.sizeOf24;have h1:¬((n:Int)+1<1):=by omega
 by_cases h:c=1
 ·subst h
  simp[Instr.slice,run_underlying hf,hsz,Instr.sliceBounds,Instr.sliceBound,asIntOf,go_sem,h1]
 ·simp[Instr.slice,run_underlying hf,hsz,Instr.sliceBounds,Instr.sliceBound,asIntOf,go_sem,h,h1,Addr.add]
attribute [local go_sem] YV
structure gW (w w':World):Prop where
 below:Below w.heap.size w w'
 drawn:w.drawn<=w'.drawn
theorem gW.mG {w w':World}(h:aU w w'):gW w w':=⟨h.below _,by obtain⟨n,rfl⟩:=h;show w.drawn<=w.drawn+n;omega⟩
theorem gW.refl (w:World):gW w w:=⟨Below.refl _ _,Nat.le_refl _⟩
theorem gW.trans {w w' w'':World}(h:gW w w')(k:gW w' w''):gW w w'':=⟨h.below.trans (k.below.mono h.below.size),Nat.le_trans h.drawn k.drawn⟩
theorem gW.alloc {w w':World}(h:gW w w')(o:Obj):gW w (w'.alloc o):=⟨h.below.alloc h.below.size o,h.drawn⟩
theorem gW.drewN {w w':World}(h:gW w w')(n:Nat):gW w (w'.drewN n):=h.trans (gW.mG ⟨n,rfl⟩)
theorem gW.set {w w':World}(h:gW w w')(p:Addr)(hp:w.heap.size<=p.block)(v:Value):gW w (w'.setCell p v):=⟨h.below.setCell hp v,h.drawn⟩
theorem CX.alloc {w:World}{base size n tb cap:Nat}{v:Value}{xs:List Value}(h:CX w base size v n xs tb cap)(o:Obj):CX (w.alloc o) base size v n xs tb cap:=h.agree (aQ _ _ _ h.lt) (by simp)
theorem CX.Ud {w:World}{base size n tb cap:Nat}{v:Value}{xs:List Value}(h:CX w base size v n xs tb cap)(o:Obj):CX (w.alloc o).drew base size v n xs tb cap:=(h.alloc o).agree (w':=(w.alloc o).drew) rfl (Nat.le_refl _)
def Ii (w:World)(c:Bool):Dom:=fun b=>b<w.heap.size/\(c=true->Cl w b)
theorem lG {D E:Dom}(f g:Fm)(v v':Value)(w:World)(h:bI w D v f)(h':bI w E v' g)(hz:f.size<=1000000)(hcl:(∀b,D b->Cl w b)\/(∀b,E b->Cl w b)) :
  Calls Tryz.prog 16 #[v,v'] w fun e w'=>e = .returned (.int .i64 (f.cmp g))/\gW w w':=by
 obtain⟨i0,hti,hz0,hz1,hz2⟩:=info_parts Vr;obtain⟨A,c,rfl,ha⟩:=h;obtain⟨A',c',rfl,ha'⟩:=h'
 obtain⟨k1,k2,hcc,hc1,hc2⟩:∃k1 k2:Bool,(k1 || k2)=true/\(k1=true->∀b,D b->Cl w b)/\(k2=true->∀b,E b->Cl w b):=by
  rcases hcl with h|h
  ·exact⟨true,false,rfl,(fun _=>h),fun h=>by cases h⟩
  ·exact⟨false,true,rfl,(fun h=>by cases h),fun _=>h⟩
 have rU:=hid hcc;have HA:=hid (ha.mono (E:=Ii w k1) fun b hb hl=>⟨hl,fun h=>hc1 h b hb⟩);have HA':=hid (ha'.mono (E:=Ii w k2) fun b hb hl=>⟨hl,fun h=>hc2 h b hb⟩);clear ha ha' hcl hcc hc1 hc2
 go_enter Tryz.func16,Tryz.ntmps16
 go_upto_region 1 with(fail)
 refine aI fun W hW=>?_
 have hbx:dF W w.heap.size f A c:=by
  show W.heap[w.heap.size]?=_;rw[hW,aQ _ _ _ (by simp)];exact at_new _ _ _ rfl
 have qfm:dF W (w.heap.size+1) g A' c':=by
  show W.heap[w.heap.size+1]?=_;rw[hW];exact at_new _ _ _ (by simp)
 have hb:gW w W:=by rw[hW];exact((gW.refl w).alloc _).alloc _
 have hs:W.heap.size=w.heap.size+2:=by rw[hW];simp
 have fD:=hid hbx;have qb9:=hid qfm;have HB:=hid hb;have HS:=hid hs;clear hW hbx qfm hb hs;have HF:=hid (dF.vG (D:=fun _=>True) fD.out trivial ((HA.out.keep (Keeps.of_below HB.out.below fun _ h=>h.1)).mono fun _ _ _=>trivial));have HF':=hid (dF.vG (D:=fun _=>True) qb9.out trivial ((HA'.out.keep (Keeps.of_below HB.out.below fun _ h=>h.1)).mono fun _ _ _=>trivial));have Zz:=hid (zN f g w.heap.size 0 (w.heap.size+1) 0 A A' c c' W HF.out HF'.out)
 by_cases hd:bY f g=0
 ·rw[hd]at Zz
  have HD:=hid hd;have hlen:=gB hd;clear hd
  by_cases hl:f.args.length=0
  ·have HR:=hid (show f.cmp g=0 by
    rw[cmp_eq,HD.out,dD,List.eq_nil_of_length_eq_zero hl];rfl)
   have hl':(f.args.length:Int)=0:=by omega
   clear hlen;go_wp2_with (first|(go_at_call 54;refine Zz.out.mono ?_;rintro e V ⟨rfl,hdv⟩;have hbv:=HB.out.trans (gW.mG hdv);have hxv:dF V w.heap.size f A c:=fD.out.below (hdv.below _);obtain⟨x0,x1,x2,x3,x4,xl⟩:=hxv.cells))
   go_ret
   exact⟨bn HR.out.symm,hbv⟩
  ·have hl':((f.args.length:Int)==0)=false:=by rw[beq_eq_false_iff_ne];omega
   have hpos:0<f.args.length:=by omega
   have HLEN:=hid hlen;clear hlen hl;go_wp2_with (first|(go_at_call 54;refine Zz.out.mono ?_;rintro e V ⟨rfl,hdv⟩;have hbv:=HB.out.trans (gW.mG hdv);have hxv:dF V w.heap.size f A c:=fD.out.below (hdv.below _);have qdr:dF V (w.heap.size+1) g A' c':=qb9.out.below (hdv.below _);obtain⟨x0,x1,x2,x3,x4,xl⟩:=hxv.cells;obtain⟨y0,y1,y2,y3,y4,yl⟩:=qdr.cells))
   refine aI fun W4 yS=>?_;have hb4:gW w W4:=by rw[yS];exact hbv.alloc _
   have hs4:CX W4 (w.heap.size+2) 2 (.slice (some ⟨V.heap.size,0,none⟩) 0 8) 0 [] V.heap.size 8:=by
    have hv:=hdv.below W.heap.size |>.size
    have:=HS.out;refine⟨rfl,by omega,by rw[yS];simp,by omega,by decide,rfl,fun j u hu=>by simp at hu,fun j hj=>⟨?_,?_⟩⟩
    ·rw[yS]
     have hnew:=at_new V (.cells (Array.replicate 16 (.slice none 0 0)) 85) V.heap.size rfl;rw[show(Array.replicate 16 (Value.slice none 0 0)) = #[.slice none 0 0,.slice none 0 0,.slice none 0 0,.slice none 0 0,.slice none 0 0,.slice none 0 0,.slice none 0 0,.slice none 0 0,.slice none 0 0,.slice none 0 0,.slice none 0 0,.slice none 0 0,.slice none 0 0,.slice none 0 0,.slice none 0 0,.slice none 0 0]from rfl]at hnew;rw[aj hnew (Array.getElem?_eq_getElem (by simpa using hj))];rfl
    ·rw[yS];exact aB (at_new V _ V.heap.size rfl)
   obtain⟨tb0,qfM⟩:∃tb0,tb0=V.heap.size:=⟨_,rfl⟩;rw[<-qfM]at hs4⊢;have HB4:=hid hb4;have VR:=hid hs4;have qcH:=hid (show w.heap.size+2<=W4.heap.size from by rw[yS];simp;have:=hdv.below W.heap.size |>.size;have:=HS.out;omega);have hx4:dF W4 w.heap.size f A c:=by rw[yS];exact hxv.below ((Below.refl _ _).alloc (Nat.le_refl _) _)
   have qfP:dF W4 (w.heap.size+1) g A' c':=by rw[yS];exact qdr.below ((Below.refl _ _).alloc (Nat.le_refl _) _)
   clear yS hs4 hb4 hxv qdr hbv hdv x0 x1 x2 x3 x4 xl y0 y1 y2 y3 y4 yl qfM;obtain⟨x0,x1,x2,x3,x4,xl⟩:=hx4.cells;obtain⟨y0,y1,y2,y3,y4,yl⟩:=qfP.cells;have htr:=Tryz.underlying86
   go_region_law
    ((refine uY _ (by rfl) _ _ 86 (by rfl) (w.heap.size+2) 84 i0 _ 2 48 Tryz.underlying86 hti hz0 hz1 hz2 rfl (by omega) (.slice (some ⟨tb0,0,none⟩) 0 8) 0 [] tb0 8 (by rfl) (VR.out.agree (aQ _ _ _ VR.out.lt) (by simp)) _ (some ⟨W4.heap.size,0,none⟩) 1 1 _ (by omega) (by rfl) (Rd.fresh (D:=fun _=>True) rfl trivial rfl (by omega)) (by simp[Value.oneCell']) (by omega) (dB (by omega)) (by have:=qcH.out;simp;omega) ?_;intro tb5 c5 w5 hst5 hg5 D6 X3))
   all_goals
    have hsz5:=hg5.size
    have Fz:Below w.heap.size w w5:=by
     refine Below.grown (HB4.out.below.trans (Below.mono (B:=W4.heap.size) (by go_grown) HB4.out.below.size)) hg5 (by simp;have:=qcH.out;omega) (fun k hk=>by injection hk with hk;subst hk;have:=VR.out.ge;omega)
    have hb5:gW w w5:=⟨Fz,Nat.le_trans HB4.out.drawn (Nat.le_trans (by simp) X3)⟩;have qbQ:CX w5 (w.heap.size+2) 2 (.slice (some ⟨tb5,0,none⟩) 1 c5) 1 (gI [⟨f.args,A,c,g.args,A',c'⟩]) tb5 c5:=hst5;have qaf:=hid qbQ;have JK:=hid hb5;clear hst5 hg5 D6 X3 Fz hb5 qbQ hsz5 x0 x1 x2 x3 x4 xl y0 y1 y2 y3 y4 yl hx4 qfP VR HB4 qcH;have HCT:=hid (show f.cmp g=DZ [⟨f.args,A,c,g.args,A',c'⟩]by rw[cmp_eq,HD.out,dD];simp[DZ,qV]);have HMT:=hid (show mT [⟨f.args,A,c,g.args,A',c'⟩]<=2000001 by have:=Fm.size_eq f;simp[mT];omega);(try simp only[Exit.then,Act.put,List.getElem_toArray,List.getElem_cons_succ,List.getElem_cons_zero,List.setIfInBounds_toArray,List.set_cons_zero,List.set_cons_succ]);go_wp2_with fail
    go_loopg [7] (mT [⟨f.args,A,c,g.args,A',c'⟩]) (fun gk v wr=>∃(st:List Rest) (tb cap:Nat),gk=mT st/\mT st<=2000001/\Hid (f.cmp g=DZ st)/\gW w wr/\v = .slice (some ⟨tb,0,none⟩) st.length cap/\CX wr (w.heap.size+2) 2 v st.length (gI st) tb cap/\(∀r,r∈st->YP w (Ii w k1) (Ii w k2) r))
    case atStart =>
     refine⟨_,tb5,c5,rfl,HMT.out,HCT,JK.out,rfl,qaf.out,fun r hr=>?_⟩;obtain rfl:=List.mem_singleton.1 hr;exact⟨HLEN.out,HA.out,HA'.out⟩
    case round =>
     clear qaf JK HCT HMT HD hl' hpos HLEN Zz HF HF' fD qb9 HB HS;obtain⟨st,tb,cap,rfl,hmt,HCT,hb,rfl,hst,hok⟩:=hrel
     rcases List.eq_nil_or_concat st with rfl|⟨st',r,rfl⟩
     ·have dG:=hid hb
      have HR:=hid (HCT.out.trans Xx);clear hok hst hb hmt;go_wp2_with fail
      go_ret
      exact⟨bn HR.out.symm,dG.out⟩
     ·simp only[List.concat_eq_append]at *
      obtain⟨m,hm⟩:∃m,m=st'.length:=⟨_,rfl⟩;have hlen1:(st' ++ [r]).length=m+1:=by simp[hm]
      have qfC:=hok;obtain⟨hrl,hra,hrg⟩:=hok r (by simp);have hcell0:=hst.at_ (m*2) (.slice r.a r.f.length r.c) (by rw[iK,List.getElem?_append_right (by rw[jP,hm];exact Nat.le_refl _),jP,hm,Nat.sub_self];rfl);have hcell1:=hst.at_ (m*2+1) (.slice r.a' r.g.length r.c') (by rw[iK,List.getElem?_append_right (by rw[jP,hm];omega),jP,hm,show st'.length*2+1-st'.length*2=1 by omega];rfl);have hroom:=hst.room;rw[hlen1]at hst hroom⊢;have hfr0:=(hst.all (m*2) (by omega)).2;have X5:=(hst.all (m*2+1) (by omega)).2;have hi1:((m+1:Nat):Int)-1=(m:Int):=by omega
      have hmb:m<=2000001:=by have:=Yy (st' ++ [r]);simp at this;omega
      have htl:=hst.lt;have hcapm:=hst.max;have HST:=hid hst;have dG:=hid hb;have HM:=hid hm;have kU:=hid qfC;have HMT:=hid hmt;clear hst hb hm hok qfC hmt hlen1
      by_cases hrf:r.f.length=0
      ·have hrf0:(r.f.length:Int)=0:=by omega
       rw[hrf]at hcell0;have TN:=hid (show f.cmp g=DZ st' by rw[HCT.out,xu,List.eq_nil_of_length_eq_zero hrf];rfl);clear hrf hrf0;go_wp2_with fail
       go_roundg (mT st')
       case rel =>
        have qfJ:=HST.out.take (k:=m) (Nat.le_succ m);rw[Gg st' r HM.out]at qfJ;exact⟨st',tb,cap,rfl,by have:=xQ st' r;have:=HMT.out;omega,TN,dG.out,by rw[<-HM.out],by rw[<-HM.out];exact qfJ,fun r hr=>kU.out r (by simp[hr])⟩
       all_goals (have:=xQ st' r;omega)
      ·obtain⟨x,F',hxf⟩:∃x F',r.f=x :: F':=by
        cases hf:r.f with
        | nil=>rw[hf]at hrf;exact absurd rfl hrf
        | cons x F'=>exact⟨x,F',rfl⟩
       obtain⟨y,G',hyg⟩:∃y G',r.g=y :: G':=by
        cases hf:r.g with
        | nil=>rw[hf]at hrl;rw[hrl]at hrf;exact absurd rfl hrf
        | cons x F'=>exact⟨x,F',rfl⟩
       rw[hxf]at hra hcell0 hrl;rw[hyg]at hrg hcell1 hrl;obtain⟨b,o,A1,c1,x',ha,hx',hfx⟩:=hra.get (k:=0) (by simp);obtain⟨b',o',A2,c2,y',ha',hy',hfy⟩:=hrg.get (k:=0) (by simp);obtain rfl:x=x':=by have:=hx'.out;simpa using this
       obtain rfl:y=y':=by have:=hy'.out;simpa using this
       rw[ha]at hra hcell0;rw[ha']at hrg hcell1;rw[Nat.zero_mul,Nat.add_zero]at hfx hfy;simp only[List.length_cons]at hcell0 hcell1 hrl;have hn1:F'.length+1<=r.c:=hra.len.2.1;have hn2:G'.length+1<=r.c':=hrg.len.2.1;have hx1:((F'.length:Int)+1==0)=false:=by rw[beq_eq_false_iff_ne];omega
       have hf0:(0:Int)<(F'.length:Int)+1:=by omega
       have hg0:(0:Int)<(G'.length:Int)+1:=by omega
       have HRT:=hid hra.tail;have HRT':=hid hrg.tail;have Zn:=hid hfx;have HFY:=hid hfy;have mX:=hid hrl
       have TN:=hid (show f.cmp g=nz (x.cmp y) (DZ (st' ++ [⟨F',tl b o r.c,r.c-1,G',tl b' o' r.c',r.c'-1⟩]))by
        rw[HCT.out,xu,xu,hxf,hyg];show nz (nz (x.cmp y) (fU F' G')) _=_
        rw[oJ])
       have TS:=hid (show mT (st' ++ [⟨F',tl b o r.c,r.c-1,G',tl b' o' r.c',r.c'-1⟩])+2*x.size=mT (st' ++ [r])by
        rw[xQ,xQ,hxf]
        simp only[sizes];omega)
       have hbv:=hfx.lt;have hbv':=hfy.lt;clear hrf hxf hyg hra hrg ha ha' hx' hy' hfx hfy hrl;go_wp2_with fail
       go_quiet (fail)
       go_wp2_with fail
       obtain⟨V1,hV1,qaI⟩:∃V1,V1=wr.drewN nq/\aU wr V1:=⟨_,rfl,nq,rfl⟩;rw[<-hV1];have e0:V1.cell? ⟨tb,m*2,none⟩=some (.slice (some ⟨b,o,none⟩) (F'.length+1) r.c):=by rw[hV1];exact hcell0
       have e1:V1.cell? ⟨tb,m*2+1,none⟩=some (.slice (some ⟨b',o',none⟩) (G'.length+1) r.c'):=by rw[hV1];exact hcell1
       have e2:V1.frozen? ⟨tb,m*2,none⟩=false:=by rw[hV1];exact hfr0
       have e3:V1.frozen? ⟨tb,m*2+1,none⟩=false:=by rw[hV1];exact X5
       have e4:tb<V1.heap.size:=by rw[hV1];exact htl
       have qcD:=hid (HST.out.agree (w':=V1) (by rw[hV1];rfl) (by rw[hV1];exact Nat.le_refl _));have HB1:=hid (dG.out.trans (gW.mG qaI));clear hV1 qaI hcell0 hcell1 hfr0 X5 htl HST
       go_region_law (fail)
       all_goals
        (try simp only[Exit.then,Act.put,List.getElem_toArray,List.getElem_cons_succ,List.getElem_cons_zero,List.setIfInBounds_toArray,List.set_cons_zero,List.set_cons_succ]);refine yx fun W6 Tf=>?_
        have qfI:CX W6 (w.heap.size+2) 2 (.slice (some ⟨tb,0,none⟩) (m+1) cap) (m+1) (gI (st' ++ [⟨F',tl b o r.c,r.c-1,G',tl b' o' r.c',r.c'-1⟩])) tb cap:=by
         rw[Tf]
         first
          | exact(by
            have h1:=(qcD.out.set (m*2) (.slice (tl b o r.c) F'.length (r.c-1)) (by omega)).set (m*2+1) (.slice (tl b' o' r.c') G'.length (r.c'-1)) (by omega);rw[yF st' r ⟨F',tl b o r.c,r.c-1,G',tl b' o' r.c',r.c'-1⟩ HM.out]at h1
            exact h1.agree rfl (Nat.le_refl _))
          | exact(by
            have h1:=(qcD.out.set (m*2+1) (.slice (tl b' o' r.c') G'.length (r.c'-1)) (by omega)).set (m*2) (.slice (tl b o r.c) F'.length (r.c-1)) (by omega);rw[Gf st' r ⟨F',tl b o r.c,r.c-1,G',tl b' o' r.c',r.c'-1⟩ HM.out]at h1
            exact h1.agree rfl (Nat.le_refl _))
        have hge:=qcD.out.ge
        have hb6:gW w W6:=by
         rw[Tf];exact((HB1.out.set _ (show w.heap.size<=tb by omega) _).set _ (show w.heap.size<=tb by omega) _).drewN 1
        have qeS:=hid qfI;have GV:=hid hb6;have ZG:=hid (Zn.out.keep (Keeps.of_below hb6.below fun _ h=>h.1));have ZH:=hid (HFY.out.keep (Keeps.of_below hb6.below fun _ h=>h.1))
        have qcr:=hid (show∀q,q∈st' ++ [⟨F',tl b o r.c,r.c-1,G',tl b' o' r.c',r.c'-1⟩]->YP w (Ii w k1) (Ii w k2) q from fun q hq=>by
         rcases List.mem_append.1 hq with hq|hq
         ·exact kU.out q (by simp[hq])
         ·obtain rfl:=List.mem_singleton.1 hq
          exact⟨by have:=mX.out;simpa using this,HRT.out,HRT'.out⟩)
        clear Tf qfI hb6 hge e0 e1 e2 e3 e4
        by_cases hpe:b=b'/\o=o'
        ·obtain⟨rfl,rfl⟩:=hpe
         obtain rfl:=dP.uniq ZG.out ZH.out;have HCT3:=hid (show f.cmp g=DZ (st' ++ [⟨F',tl b o r.c,r.c-1,G',tl b o r.c',r.c'-1⟩])by rw[TN.out,sJ,dD]);have heq:=fun W':World=>sN (w:=W') (b:=b) (o:=o);go_wp2_with fail
         go_roundg (mT (st' ++ [⟨F',tl b o r.c,r.c-1,G',tl b o r.c',r.c'-1⟩]))
         case rel=>exact⟨_,tb,cap,rfl,by have:=TS.out;have:=HMT.out;omega,HCT3,GV.out,by simp[HM.out],by simp only[List.length_append,List.length_singleton];rw[<-HM.out];exact qeS.out,qcr.out⟩
         all_goals (have:=TS.out;have:=Fm.size_eq x;omega)
        ·have heq:=zQ ZG.out.c0 ZH.out.c0 (by
          rcases(Bool.or_eq_true _ _).mp rU.out with hc|hc
          ·exact .inl ((Zn.out.dom.2 hc).of_eq (GV.out.below.block _ Zn.out.dom.1))
          ·exact .inr ((HFY.out.dom.2 hc).of_eq (GV.out.below.block _ HFY.out.dom.1))) hpe
         have ZA:=hid (zN x y b o b' o' _ _ _ _ W6 ZG.out ZH.out);go_upto_region 13 with(fail)
         by_cases hd:bY x y=0
         ·rw[hd]at ZA
          have HD:=hid hd;have hxl:=gB hd;clear hd heq;go_upto_region 16 with(first|(go_at_call 54;refine ZA.out.mono ?_;rintro e W7 ⟨rfl,hdv⟩))
          have vK:=hid (GV.out.trans (gW.mG hdv));have qdk:=ZG.out.keep (hdv.keeps);have qdl:=ZH.out.keep (hdv.keeps);have hx4:=qdk.c4;have hx4l:=qdk.lt;have hy4:=qdl.c4;have hy4l:=qdl.lt;have PK:=hid (qeS.out.agree (w':=W7) (by obtain⟨n,rfl⟩:=hdv;rfl) (by obtain⟨n,rfl⟩:=hdv;exact Nat.le_refl _));have qcI:=hid (show w.heap.size+2<=W7.heap.size from by have:=PK.out.ge;have:=PK.out.lt;omega);clear qdk qdl hdv ZA
          by_cases hxa:x.args.length=0
          ·have hxa':¬(0:Int)<(x.args.length:Int):=by omega
           have qce:=hid (show f.cmp g=DZ (st' ++ [⟨F',tl b o r.c,r.c-1,G',tl b' o' r.c',r.c'-1⟩])by
            rw[TN.out,cmp_eq,HD.out,dD,List.eq_nil_of_length_eq_zero hxa];rfl)
           clear hxa hxl;go_wp2_with fail
           go_roundg (mT (st' ++ [⟨F',tl b o r.c,r.c-1,G',tl b' o' r.c',r.c'-1⟩]))
           case rel=>exact⟨_,tb,cap,rfl,by have:=TS.out;have:=HMT.out;omega,qce,vK.out,by simp[HM.out],by simp only[List.length_append,List.length_singleton];rw[<-HM.out];exact PK.out,qcr.out⟩
           all_goals (have:=TS.out;have:=Fm.size_eq x;omega)
          ·have hxa':(0:Int)<(x.args.length:Int):=by omega
           have HXL:=hid hxl;clear hxa hxl;go_upto_region 17 with(fail)
           go_region_law
            ((refine uY _ (by rfl) _ _ 86 (by rfl) (w.heap.size+2) 84 i0 _ 2 48 Tryz.underlying86 hti hz0 hz1 hz2 rfl (by omega) (.slice (some ⟨tb,0,none⟩) (m+1) cap) (m+1) (gI (st' ++ [⟨F',tl b o r.c,r.c-1,G',tl b' o' r.c',r.c'-1⟩])) tb cap (by rfl) (by first|exact PK.out.alloc _|exact PK.out.Ud _) _ (some ⟨W7.heap.size,0,none⟩) 1 1 _ (by omega) (by rfl) (Rd.fresh (D:=fun _=>True) rfl trivial rfl (by omega)) (by simp[Value.oneCell']) (by omega) (dB (by omega)) (by have:=qcI.out;simp;omega) ?_;intro tb5 c5 w5 hst5 hg5 D6 X3))
           all_goals
            have hsz5:=hg5.size
            have Fz:Below w.heap.size w w5:=by
             refine Below.grown (vK.out.below.trans (Below.mono (B:=W7.heap.size) (by go_grown) vK.out.below.size)) hg5 (by simp;have:=qcI.out;omega) (fun k hk=>by injection hk with hk;subst hk;have:=PK.out.ge;omega)
            have hb5:gW w w5:=⟨Fz,Nat.le_trans vK.out.drawn (Nat.le_trans (by simp) X3)⟩;have qaf:=hid hst5;have JK:=hid hb5;clear hst5 hg5 D6 X3 Fz hb5 hsz5 hx4 hx4l hy4 hy4l PK vK qcI
            have qce:=hid (show f.cmp g=DZ ((st' ++ [⟨F',tl b o r.c,r.c-1,G',tl b' o' r.c',r.c'-1⟩]) ++ [⟨x.args,A1,c1,y.args,A2,c2⟩])by
             rw[TN.out,cmp_eq,HD.out,dD];exact(xu (st' ++ [⟨F',tl b o r.c,r.c-1,G',tl b' o' r.c',r.c'-1⟩]) ⟨x.args,A1,c1,y.args,A2,c2⟩).symm)
            (try simp only[Exit.then,Act.put,List.getElem_toArray,List.getElem_cons_succ,List.getElem_cons_zero,List.setIfInBounds_toArray,List.set_cons_zero,List.set_cons_succ]);go_wp2_with fail
            go_roundg (mT ((st' ++ [⟨F',tl b o r.c,r.c-1,G',tl b' o' r.c',r.c'-1⟩]) ++ [⟨x.args,A1,c1,y.args,A2,c2⟩]))
            case rel =>
             refine⟨_,tb5,c5,rfl,by have:=TS.out;have:=HMT.out;have:=Fm.size_eq x;have:=xQ (st' ++ [⟨F',tl b o r.c,r.c-1,G',tl b' o' r.c',r.c'-1⟩]) ⟨x.args,A1,c1,y.args,A2,c2⟩;simp only at this;omega,qce,JK.out,by simp[HM.out],?_,fun q hq=>?_⟩
             ·have:=qaf.out
              rw[iK]at this⊢;simp only[List.length_append,List.length_singleton];rw[iK,<-HM.out];exact this
             ·rcases List.mem_append.1 hq with hq|hq
              ·exact qcr.out q hq
              ·obtain rfl:=List.mem_singleton.1 hq
               exact⟨HXL.out,Zn.out.args,HFY.out.args⟩
            all_goals (have:=TS.out;have:=Fm.size_eq x;have:=xQ (st' ++ [⟨F',tl b o r.c,r.c-1,G',tl b' o' r.c',r.c'-1⟩]) ⟨x.args,A1,c1,y.args,A2,c2⟩;simp only at this;omega)
         ·have HR:=hid (show f.cmp g=bY x y by
           rw[TN.out,cmp_eq,FY hd,FY hd])
          have hne:(bY x y != 0)=true:=lF hd;clear hd heq;go_wp2_with (first|(go_at_call 54;refine ZA.out.mono ?_;rintro e W7 ⟨rfl,hdv⟩))
          go_ret
          exact⟨bn HR.out.symm,GV.out.trans (gW.mG hdv)⟩
 ·have hne:(bY f g != 0)=true:=lF hd
  have HR:=hid (show f.cmp g=bY f g by rw[cmp_eq,FY hd]);clear hd;go_wp2_with (first|(go_at_call 54;refine Zz.out.mono ?_;rintro e V ⟨rfl,hdv⟩;have hbv:=HB.out.trans (gW.mG hdv);have hxv:dF V w.heap.size f A c:=fD.out.below (hdv.below _);obtain⟨x0,x1,x2,x3,x4,xl⟩:=hxv.cells))
  go_ret
  exact⟨bn HR.out.symm,hbv⟩
end Go.Proofs.YtdpbgcmfeajigaaGreatDoor
