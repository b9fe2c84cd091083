/-
  Walk of Compare.
-/
import Derived.Deep.LoopGhost
import Derived.Test.YtdpbgcmfeajigaaGreatDoorP08
set_option linter.unusedSimpArgs false
set_option linter.unusedVariables false
set_option maxHeartbeats 8000000
set_option maxRecDepth 100000
namespace Go.Proofs.YtdpbgcmfeajigaaGreatDoor
open Go.RowKit Go.Shelf
attribute [local go_sem] ak
theorem yw {K:Act->World->Prop}{a:Act}{w:World}(h:∀W,W=w->K a W):K a w:=h w rfl
theorem VU:(Tryz.prog.info? 84).map (fun i=>(i.zero,i.size,i.bytes))=some (some (.agg #[.slice none 0 0,.slice none 0 0]),2,48):=by kernel_rfl
theorem Qy (A A':Option Addr)(n n' c c':Nat)(w:World):(Instr.build 84 #[(0,.slice A n c),(1,.slice A' n' c')]).run Tryz.prog w = .ok (.agg #[.slice A n c,.slice A' n' c']) w:=run_build w 84 _ _ (by kernel_rfl)
attribute [local go_sem] Qy
def tl (b o c:Nat):Option Addr:=if c=1 then some ⟨b,o,none⟩else some ⟨b,o+5,none⟩
theorem ZA (b o n c:Nat)(w:World)(hn:n+1<=c):(Instr.slice 22 (.slice (some ⟨b,o,none⟩) (n+1) c) (some (.int .i64 1)) none none).run Tryz.prog w = .ok (.slice (tl b o c) n (c-1)) w:=by
 unfold tl;have hf:=Tryz.underlying22;have hsz:=Tryz.sizeOf24;have h1:¬((n:Int)+1<1):=by omega
 by_cases h:c=1
 ·subst h
  simp[Instr.slice,run_underlying hf,hsz,Instr.sliceBounds,Instr.sliceBound,asIntOf,go_sem,h1]
 ·simp[Instr.slice,run_underlying hf,hsz,Instr.sliceBounds,Instr.sliceBound,asIntOf,go_sem,h,h1,Addr.add]
attribute [local go_sem] ZA
structure gV (w w':World):Prop where
 below:Below w.heap.size w w'
 drawn:w.drawn<=w'.drawn
theorem gV.mG {w w':World}(h:aU w w'):gV w w':=⟨h.below _,by obtain⟨n,rfl⟩:=h;show w.drawn<=w.drawn+n;omega⟩
theorem gV.refl (w:World):gV w w:=⟨Below.refl _ _,Nat.le_refl _⟩
theorem gV.trans {w w' w'':World}(h:gV w w')(k:gV w' w''):gV w w'':=⟨h.below.trans (k.below.mono h.below.size),Nat.le_trans h.drawn k.drawn⟩
theorem gV.alloc {w w':World}(h:gV w w')(o:Obj):gV w (w'.alloc o):=⟨h.below.alloc h.below.size o,h.drawn⟩
theorem gV.drewN {w w':World}(h:gV w w')(n:Nat):gV w (w'.drewN n):=h.trans (gV.mG ⟨n,rfl⟩)
theorem gV.set {w w':World}(h:gV w w')(p:Addr)(hp:w.heap.size<=p.block)(v:Value):gV w (w'.setCell p v):=⟨h.below.setCell hp v,h.drawn⟩
theorem CY.alloc {w:World}{base size n tb cap:Nat}{v:Value}{xs:List Value}(h:CY w base size v n xs tb cap)(o:Obj):CY (w.alloc o) base size v n xs tb cap:=h.agree (aQ _ _ _ h.lt) (by simp)
theorem CY.UD {w:World}{base size n tb cap:Nat}{v:Value}{xs:List Value}(h:CY w base size v n xs tb cap)(o:Obj):CY (w.alloc o).drew base size v n xs tb cap:=(h.alloc o).agree (w':=(w.alloc o).drew) rfl (Nat.le_refl _)
def Ir (w:World)(c:Bool):Dom:=fun b=>b<w.heap.size/\(c=true->Cl w b)
theorem lC {D E:Dom}(f g:Fm)(v v':Value)(w:World)(h:bG w D v f)(h':bG w E v' g)(hz:f.size<=1000000)(hcl:(∀b,D b->Cl w b)\/(∀b,E b->Cl w b)) :
  Calls Tryz.prog 16 #[v,v'] w fun e w'=>e = .returned (.int .i64 (f.cmp g))/\gV w w':=by
 obtain⟨i0,hti,hz0,hz1,hz2⟩:=info_parts VU;obtain⟨A,c,rfl,ha⟩:=h;obtain⟨A',c',rfl,ha'⟩:=h'
 obtain⟨k1,k2,hcc,hc1,hc2⟩:∃k1 k2:Bool,(k1 || k2)=true/\(k1=true->∀b,D b->Cl w b)/\(k2=true->∀b,E b->Cl w b):=by
  rcases hcl with h|h
  ·exact⟨true,false,rfl,(fun _=>h),fun h=>by cases h⟩
  ·exact⟨false,true,rfl,(fun h=>by cases h),fun _=>h⟩
 have rY:=hid hcc;have HA:=hid (ha.mono (E:=Ir w k1) fun b hb hl=>⟨hl,fun h=>hc1 h b hb⟩);have HA':=hid (ha'.mono (E:=Ir w k2) fun b hb hl=>⟨hl,fun h=>hc2 h b hb⟩);clear ha ha' hcl hcc hc1 hc2
 go_enter Tryz.func16,Tryz.ntmps16
 go_upto_region 1 with(fail)
 refine aH fun W hW=>?_
 have hbx:dI W w.heap.size f A c:=by
  show W.heap[w.heap.size]?=_;rw[hW,aQ _ _ _ (by simp)];exact at_new _ _ _ rfl
 have qf0:dI W (w.heap.size+1) g A' c':=by
  show W.heap[w.heap.size+1]?=_;rw[hW];exact at_new _ _ _ (by simp)
 have hb:gV w W:=by rw[hW];exact((gV.refl w).alloc _).alloc _
 have hs:W.heap.size=w.heap.size+2:=by rw[hW];simp
 have fE:=hid hbx;have qcA:=hid qf0;have HB:=hid hb;have HS:=hid hs;clear hW hbx qf0 hb hs;have HF:=hid (dI.vM (D:=fun _=>True) fE.out trivial ((HA.out.keep (Keeps.of_below HB.out.below fun _ h=>h.1)).mono fun _ _ _=>trivial));have HF':=hid (dI.vM (D:=fun _=>True) qcA.out trivial ((HA'.out.keep (Keeps.of_below HB.out.below fun _ h=>h.1)).mono fun _ _ _=>trivial));have HCN:=hid (zI f g w.heap.size 0 (w.heap.size+1) 0 A A' c c' W HF.out HF'.out)
 by_cases hd:bY f g=0
 ·rw[hd]at HCN
  have HD:=hid hd;have hlen:=gy hd;clear hd
  by_cases hl:f.args.length=0
  ·have HR:=hid (show f.cmp g=0 by
    rw[cmp_eq,HD.out,dH,List.eq_nil_of_length_eq_zero hl];rfl)
   have hl':(f.args.length:Int)=0:=by omega
   clear hlen;go_wp2_with (first|(go_at_call 54;refine HCN.out.mono ?_;rintro e V ⟨rfl,hdv⟩;have hbv:=HB.out.trans (gV.mG hdv);have hxv:dI V w.heap.size f A c:=fE.out.below (hdv.below _);obtain⟨x0,x1,x2,x3,x4,xl⟩:=hxv.cells))
   go_ret
   exact⟨bn HR.out.symm,hbv⟩
  ·have hl':((f.args.length:Int)==0)=false:=by rw[beq_eq_false_iff_ne];omega
   have hpos:0<f.args.length:=by omega
   have HLEN:=hid hlen;clear hlen hl;go_wp2_with (first|(go_at_call 54;refine HCN.out.mono ?_;rintro e V ⟨rfl,hdv⟩;have hbv:=HB.out.trans (gV.mG hdv);have hxv:dI V w.heap.size f A c:=fE.out.below (hdv.below _);have qdZ:dI V (w.heap.size+1) g A' c':=qcA.out.below (hdv.below _);obtain⟨x0,x1,x2,x3,x4,xl⟩:=hxv.cells;obtain⟨y0,y1,y2,y3,y4,yl⟩:=qdZ.cells))
   refine aH fun W4 D7=>?_;have hb4:gV w W4:=by rw[D7];exact hbv.alloc _
   have hs4:CY W4 (w.heap.size+2) 2 (.slice (some ⟨V.heap.size,0,none⟩) 0 8) 0 [] V.heap.size 8:=by
    have hv:=hdv.below W.heap.size |>.size
    have:=HS.out;refine⟨rfl,by omega,by rw[D7];simp,by omega,by decide,rfl,fun j u hu=>by simp at hu,fun j hj=>⟨?_,?_⟩⟩
    ·rw[D7]
     have hnew:=at_new V (.cells (Array.replicate 16 (.slice none 0 0)) 85) V.heap.size rfl;rw[show(Array.replicate 16 (Value.slice none 0 0)) = #[.slice none 0 0,.slice none 0 0,.slice none 0 0,.slice none 0 0,.slice none 0 0,.slice none 0 0,.slice none 0 0,.slice none 0 0,.slice none 0 0,.slice none 0 0,.slice none 0 0,.slice none 0 0,.slice none 0 0,.slice none 0 0,.slice none 0 0,.slice none 0 0]from rfl]at hnew;rw[aj hnew (Array.getElem?_eq_getElem (by simpa using hj))];rfl
    ·rw[D7];exact aA (at_new V _ V.heap.size rfl)
   obtain⟨tb0,qgs⟩:∃tb0,tb0=V.heap.size:=⟨_,rfl⟩;rw[<-qgs]at hs4⊢;have HB4:=hid hb4;have WQ:=hid hs4;have qdj:=hid (show w.heap.size+2<=W4.heap.size from by rw[D7];simp;have:=hdv.below W.heap.size |>.size;have:=HS.out;omega);have hx4:dI W4 w.heap.size f A c:=by rw[D7];exact hxv.below ((Below.refl _ _).alloc (Nat.le_refl _) _)
   have qgv:dI W4 (w.heap.size+1) g A' c':=by rw[D7];exact qdZ.below ((Below.refl _ _).alloc (Nat.le_refl _) _)
   clear D7 hs4 hb4 hxv qdZ hbv hdv x0 x1 x2 x3 x4 xl y0 y1 y2 y3 y4 yl qgs;obtain⟨x0,x1,x2,x3,x4,xl⟩:=hx4.cells;obtain⟨y0,y1,y2,y3,y4,yl⟩:=qgv.cells;have htr:=Tryz.underlying86
   go_region_law
    ((refine vC _ (by rfl) _ _ 86 (by rfl) (w.heap.size+2) 84 i0 _ 2 48 Tryz.underlying86 hti hz0 hz1 hz2 rfl (by omega) (.slice (some ⟨tb0,0,none⟩) 0 8) 0 [] tb0 8 (by rfl) (WQ.out.agree (aQ _ _ _ WQ.out.lt) (by simp)) _ (some ⟨W4.heap.size,0,none⟩) 1 1 _ (by omega) (by rfl) (Rd.fresh (D:=fun _=>True) rfl trivial rfl (by omega)) (by simp[Value.oneCell']) (by omega) (dF (by omega)) (by have:=qdj.out;simp;omega) ?_;intro tb5 c5 w5 hst5 hg5 D8 Yy))
   all_goals
    have hsz5:=hg5.size
    have AV:Below w.heap.size w w5:=by
     refine Below.grown (HB4.out.below.trans (Below.mono (B:=W4.heap.size) (by go_grown) HB4.out.below.size)) hg5 (by simp;have:=qdj.out;omega) (fun k hk=>by injection hk with hk;subst hk;have:=WQ.out.ge;omega)
    have hb5:gV w w5:=⟨AV,Nat.le_trans HB4.out.drawn (Nat.le_trans (by simp) Yy)⟩;have qco:CY w5 (w.heap.size+2) 2 (.slice (some ⟨tb5,0,none⟩) 1 c5) 1 (gI [⟨f.args,A,c,g.args,A',c'⟩]) tb5 c5:=hst5;have qaL:=hid qco;have O5:=hid hb5;clear hst5 hg5 D8 Yy AV hb5 qco hsz5 x0 x1 x2 x3 x4 xl y0 y1 y2 y3 y4 yl hx4 qgv WQ HB4 qdj;have HCT:=hid (show f.cmp g=D5 [⟨f.args,A,c,g.args,A',c'⟩]by rw[cmp_eq,HD.out,dH];simp[D5,rC]);have HMT:=hid (show mT [⟨f.args,A,c,g.args,A',c'⟩]<=2000001 by have:=Fm.size_eq f;simp[mT];omega);(try simp only[Exit.then,Act.put,List.getElem_toArray,List.getElem_cons_succ,List.getElem_cons_zero,List.setIfInBounds_toArray,List.set_cons_zero,List.set_cons_succ]);go_wp2_with fail
    go_loopg [7] (mT [⟨f.args,A,c,g.args,A',c'⟩]) (fun gk v wr=>∃(st:List Rest) (tb cap:Nat),gk=mT st/\mT st<=2000001/\Hid (f.cmp g=D5 st)/\gV w wr/\v = .slice (some ⟨tb,0,none⟩) st.length cap/\CY wr (w.heap.size+2) 2 v st.length (gI st) tb cap/\(∀r,r∈st->Zu w (Ir w k1) (Ir w k2) r))
    case atStart =>
     refine⟨_,tb5,c5,rfl,HMT.out,HCT,O5.out,rfl,qaL.out,fun r hr=>?_⟩;obtain rfl:=List.mem_singleton.1 hr;exact⟨HLEN.out,HA.out,HA'.out⟩
    case round =>
     clear qaL O5 HCT HMT HD hl' hpos HLEN HCN HF HF' fE qcA HB HS;obtain⟨st,tb,cap,rfl,hmt,HCT,hb,rfl,hst,hok⟩:=hrel
     rcases List.eq_nil_or_concat st with rfl|⟨st',r,rfl⟩
     ·have dJ:=hid hb
      have HR:=hid (HCT.out.trans X7);clear hok hst hb hmt;go_wp2_with fail
      go_ret
      exact⟨bn HR.out.symm,dJ.out⟩
     ·simp only[List.concat_eq_append]at *
      obtain⟨m,hm⟩:∃m,m=st'.length:=⟨_,rfl⟩;have hlen1:(st' ++ [r]).length=m+1:=by simp[hm]
      have qgh:=hok;obtain⟨hrl,hra,hrg⟩:=hok r (by simp);have hcell0:=hst.at_ (m*2) (.slice r.a r.f.length r.c) (by rw[iJ,List.getElem?_append_right (by rw[jL,hm];exact Nat.le_refl _),jL,hm,Nat.sub_self];rfl);have hcell1:=hst.at_ (m*2+1) (.slice r.a' r.g.length r.c') (by rw[iJ,List.getElem?_append_right (by rw[jL,hm];omega),jL,hm,show st'.length*2+1-st'.length*2=1 by omega];rfl);have hroom:=hst.room;rw[hlen1]at hst hroom⊢;have hfr0:=(hst.all (m*2) (by omega)).2;have YA:=(hst.all (m*2+1) (by omega)).2;have hi1:((m+1:Nat):Int)-1=(m:Int):=by omega
      have hmb:m<=2000001:=by have:=Za (st' ++ [r]);simp at this;omega
      have htl:=hst.lt;have hcapm:=hst.max;have HST:=hid hst;have dJ:=hid hb;have HM:=hid hm;have kR:=hid qgh;have HMT:=hid hmt;clear hst hb hm hok qgh hmt hlen1
      by_cases hrf:r.f.length=0
      ·have hrf0:(r.f.length:Int)=0:=by omega
       rw[hrf]at hcell0;have Uk:=hid (show f.cmp g=D5 st' by rw[HCT.out,xA,List.eq_nil_of_length_eq_zero hrf];rfl);clear hrf hrf0;go_wp2_with fail
       go_roundg (mT st')
       case rel =>
        have qgo:=HST.out.take (k:=m) (Nat.le_succ m);rw[Gn st' r HM.out]at qgo;exact⟨st',tb,cap,rfl,by have:=xP st' r;have:=HMT.out;omega,Uk,dJ.out,by rw[<-HM.out],by rw[<-HM.out];exact qgo,fun r hr=>kR.out r (by simp[hr])⟩
       all_goals (have:=xP st' r;omega)
      ·obtain⟨x,F',hxf⟩:∃x F',r.f=x :: F':=by
        cases hf:r.f with
        | nil=>rw[hf]at hrf;exact absurd rfl hrf
        | cons x F'=>exact⟨x,F',rfl⟩
       obtain⟨y,G',hyg⟩:∃y G',r.g=y :: G':=by
        cases hf:r.g with
        | nil=>rw[hf]at hrl;rw[hrl]at hrf;exact absurd rfl hrf
        | cons x F'=>exact⟨x,F',rfl⟩
       rw[hxf]at hra hcell0 hrl;rw[hyg]at hrg hcell1 hrl;obtain⟨b,o,A1,c1,x',ha,hx',hfx⟩:=hra.get (k:=0) (by simp);obtain⟨b',o',A2,c2,y',ha',hy',hfy⟩:=hrg.get (k:=0) (by simp);obtain rfl:x=x':=by have:=hx'.out;simpa using this
       obtain rfl:y=y':=by have:=hy'.out;simpa using this
       rw[ha]at hra hcell0;rw[ha']at hrg hcell1;rw[Nat.zero_mul,Nat.add_zero]at hfx hfy;simp only[List.length_cons]at hcell0 hcell1 hrl;have hn1:F'.length+1<=r.c:=hra.len.2.1;have hn2:G'.length+1<=r.c':=hrg.len.2.1;have hx1:((F'.length:Int)+1==0)=false:=by rw[beq_eq_false_iff_ne];omega
       have hf0:(0:Int)<(F'.length:Int)+1:=by omega
       have hg0:(0:Int)<(G'.length:Int)+1:=by omega
       have HRT:=hid hra.tail;have HRT':=hid hrg.tail;have ZQ:=hid hfx;have HFY:=hid hfy;have mY:=hid hrl
       have Uk:=hid (show f.cmp g=nz (x.cmp y) (D5 (st' ++ [⟨F',tl b o r.c,r.c-1,G',tl b' o' r.c',r.c'-1⟩]))by
        rw[HCT.out,xA,xA,hxf,hyg];show nz (nz (x.cmp y) (fV F' G')) _=_
        rw[oP])
       have Un:=hid (show mT (st' ++ [⟨F',tl b o r.c,r.c-1,G',tl b' o' r.c',r.c'-1⟩])+2*x.size=mT (st' ++ [r])by
        rw[xP,xP,hxf]
        simp only[sizes];omega)
       have hbv:=hfx.lt;have hbv':=hfy.lt;clear hrf hxf hyg hra hrg ha ha' hx' hy' hfx hfy hrl;go_wp2_with fail
       go_quiet (fail)
       go_wp2_with fail
       obtain⟨V1,hV1,qbh⟩:∃V1,V1=wr.drewN nq/\aU wr V1:=⟨_,rfl,nq,rfl⟩;rw[<-hV1];have e0:V1.cell? ⟨tb,m*2,none⟩=some (.slice (some ⟨b,o,none⟩) (F'.length+1) r.c):=by rw[hV1];exact hcell0
       have e1:V1.cell? ⟨tb,m*2+1,none⟩=some (.slice (some ⟨b',o',none⟩) (G'.length+1) r.c'):=by rw[hV1];exact hcell1
       have e2:V1.frozen? ⟨tb,m*2,none⟩=false:=by rw[hV1];exact hfr0
       have e3:V1.frozen? ⟨tb,m*2+1,none⟩=false:=by rw[hV1];exact YA
       have e4:tb<V1.heap.size:=by rw[hV1];exact htl
       have qdf:=hid (HST.out.agree (w':=V1) (by rw[hV1];rfl) (by rw[hV1];exact Nat.le_refl _));have HB1:=hid (dJ.out.trans (gV.mG qbh));clear hV1 qbh hcell0 hcell1 hfr0 YA htl HST
       go_region_law (fail)
       all_goals
        (try simp only[Exit.then,Act.put,List.getElem_toArray,List.getElem_cons_succ,List.getElem_cons_zero,List.setIfInBounds_toArray,List.set_cons_zero,List.set_cons_succ]);refine yw fun W6 TU=>?_
        have qgn:CY W6 (w.heap.size+2) 2 (.slice (some ⟨tb,0,none⟩) (m+1) cap) (m+1) (gI (st' ++ [⟨F',tl b o r.c,r.c-1,G',tl b' o' r.c',r.c'-1⟩])) tb cap:=by
         rw[TU]
         first
          | exact(by
            have h1:=(qdf.out.set (m*2) (.slice (tl b o r.c) F'.length (r.c-1)) (by omega)).set (m*2+1) (.slice (tl b' o' r.c') G'.length (r.c'-1)) (by omega);rw[yE st' r ⟨F',tl b o r.c,r.c-1,G',tl b' o' r.c',r.c'-1⟩ HM.out]at h1
            exact h1.agree rfl (Nat.le_refl _))
          | exact(by
            have h1:=(qdf.out.set (m*2+1) (.slice (tl b' o' r.c') G'.length (r.c'-1)) (by omega)).set (m*2) (.slice (tl b o r.c) F'.length (r.c-1)) (by omega);rw[Gm st' r ⟨F',tl b o r.c,r.c-1,G',tl b' o' r.c',r.c'-1⟩ HM.out]at h1
            exact h1.agree rfl (Nat.le_refl _))
        have hge:=qdf.out.ge
        have hb6:gV w W6:=by
         rw[TU];exact((HB1.out.set _ (show w.heap.size<=tb by omega) _).set _ (show w.heap.size<=tb by omega) _).drewN 1
        have qfv:=hid qgn;have G7:=hid hb6;have qal:=hid (ZQ.out.keep (Keeps.of_below hb6.below fun _ h=>h.1));have qam:=hid (HFY.out.keep (Keeps.of_below hb6.below fun _ h=>h.1))
        have qcX:=hid (show∀q,q∈st' ++ [⟨F',tl b o r.c,r.c-1,G',tl b' o' r.c',r.c'-1⟩]->Zu w (Ir w k1) (Ir w k2) q from fun q hq=>by
         rcases List.mem_append.1 hq with hq|hq
         ·exact kR.out q (by simp[hq])
         ·obtain rfl:=List.mem_singleton.1 hq
          exact⟨by have:=mY.out;simpa using this,HRT.out,HRT'.out⟩)
        clear TU qgn hb6 hge e0 e1 e2 e3 e4
        by_cases hpe:b=b'/\o=o'
        ·obtain⟨rfl,rfl⟩:=hpe
         obtain rfl:=dU.uniq qal.out qam.out;have HCT3:=hid (show f.cmp g=D5 (st' ++ [⟨F',tl b o r.c,r.c-1,G',tl b o r.c',r.c'-1⟩])by rw[Uk.out,sO,dH]);have heq:=fun W':World=>sQ (w:=W') (b:=b) (o:=o);go_wp2_with fail
         go_roundg (mT (st' ++ [⟨F',tl b o r.c,r.c-1,G',tl b o r.c',r.c'-1⟩]))
         case rel=>exact⟨_,tb,cap,rfl,by have:=Un.out;have:=HMT.out;omega,HCT3,G7.out,by simp[HM.out],by simp only[List.length_append,List.length_singleton];rw[<-HM.out];exact qfv.out,qcX.out⟩
         all_goals (have:=Un.out;have:=Fm.size_eq x;omega)
        ·have heq:=zK qal.out.c0 qam.out.c0 (by
          rcases(Bool.or_eq_true _ _).mp rY.out with hc|hc
          ·exact .inl ((ZQ.out.dom.2 hc).of_eq (G7.out.below.block _ ZQ.out.dom.1))
          ·exact .inr ((HFY.out.dom.2 hc).of_eq (G7.out.below.block _ HFY.out.dom.1))) hpe
         have qag:=hid (zI x y b o b' o' _ _ _ _ W6 qal.out qam.out);go_upto_region 13 with(fail)
         by_cases hd:bY x y=0
         ·rw[hd]at qag
          have HD:=hid hd;have hxl:=gy hd;clear hd heq;go_upto_region 16 with(first|(go_at_call 54;refine qag.out.mono ?_;rintro e W7 ⟨rfl,hdv⟩))
          have vS:=hid (G7.out.trans (gV.mG hdv));have qdR:=qal.out.keep (hdv.keeps);have qdS:=qam.out.keep (hdv.keeps);have hx4:=qdR.c4;have hx4l:=qdR.lt;have hy4:=qdS.c4;have hy4l:=qdS.lt;have Qe:=hid (qfv.out.agree (w':=W7) (by obtain⟨n,rfl⟩:=hdv;rfl) (by obtain⟨n,rfl⟩:=hdv;exact Nat.le_refl _));have qdk:=hid (show w.heap.size+2<=W7.heap.size from by have:=Qe.out.ge;have:=Qe.out.lt;omega);clear qdR qdS hdv qag
          by_cases hxa:x.args.length=0
          ·have hxa':¬(0:Int)<(x.args.length:Int):=by omega
           have qcF:=hid (show f.cmp g=D5 (st' ++ [⟨F',tl b o r.c,r.c-1,G',tl b' o' r.c',r.c'-1⟩])by
            rw[Uk.out,cmp_eq,HD.out,dH,List.eq_nil_of_length_eq_zero hxa];rfl)
           clear hxa hxl;go_wp2_with fail
           go_roundg (mT (st' ++ [⟨F',tl b o r.c,r.c-1,G',tl b' o' r.c',r.c'-1⟩]))
           case rel=>exact⟨_,tb,cap,rfl,by have:=Un.out;have:=HMT.out;omega,qcF,vS.out,by simp[HM.out],by simp only[List.length_append,List.length_singleton];rw[<-HM.out];exact Qe.out,qcX.out⟩
           all_goals (have:=Un.out;have:=Fm.size_eq x;omega)
          ·have hxa':(0:Int)<(x.args.length:Int):=by omega
           have HXL:=hid hxl;clear hxa hxl;go_upto_region 17 with(fail)
           go_region_law
            ((refine vC _ (by rfl) _ _ 86 (by rfl) (w.heap.size+2) 84 i0 _ 2 48 Tryz.underlying86 hti hz0 hz1 hz2 rfl (by omega) (.slice (some ⟨tb,0,none⟩) (m+1) cap) (m+1) (gI (st' ++ [⟨F',tl b o r.c,r.c-1,G',tl b' o' r.c',r.c'-1⟩])) tb cap (by rfl) (by first|exact Qe.out.alloc _|exact Qe.out.UD _) _ (some ⟨W7.heap.size,0,none⟩) 1 1 _ (by omega) (by rfl) (Rd.fresh (D:=fun _=>True) rfl trivial rfl (by omega)) (by simp[Value.oneCell']) (by omega) (dF (by omega)) (by have:=qdk.out;simp;omega) ?_;intro tb5 c5 w5 hst5 hg5 D8 Yy))
           all_goals
            have hsz5:=hg5.size
            have AV:Below w.heap.size w w5:=by
             refine Below.grown (vS.out.below.trans (Below.mono (B:=W7.heap.size) (by go_grown) vS.out.below.size)) hg5 (by simp;have:=qdk.out;omega) (fun k hk=>by injection hk with hk;subst hk;have:=Qe.out.ge;omega)
            have hb5:gV w w5:=⟨AV,Nat.le_trans vS.out.drawn (Nat.le_trans (by simp) Yy)⟩;have qaL:=hid hst5;have O5:=hid hb5;clear hst5 hg5 D8 Yy AV hb5 hsz5 hx4 hx4l hy4 hy4l Qe vS qdk
            have qcF:=hid (show f.cmp g=D5 ((st' ++ [⟨F',tl b o r.c,r.c-1,G',tl b' o' r.c',r.c'-1⟩]) ++ [⟨x.args,A1,c1,y.args,A2,c2⟩])by
             rw[Uk.out,cmp_eq,HD.out,dH];exact(xA (st' ++ [⟨F',tl b o r.c,r.c-1,G',tl b' o' r.c',r.c'-1⟩]) ⟨x.args,A1,c1,y.args,A2,c2⟩).symm)
            (try simp only[Exit.then,Act.put,List.getElem_toArray,List.getElem_cons_succ,List.getElem_cons_zero,List.setIfInBounds_toArray,List.set_cons_zero,List.set_cons_succ]);go_wp2_with fail
            go_roundg (mT ((st' ++ [⟨F',tl b o r.c,r.c-1,G',tl b' o' r.c',r.c'-1⟩]) ++ [⟨x.args,A1,c1,y.args,A2,c2⟩]))
            case rel =>
             refine⟨_,tb5,c5,rfl,by have:=Un.out;have:=HMT.out;have:=Fm.size_eq x;have:=xP (st' ++ [⟨F',tl b o r.c,r.c-1,G',tl b' o' r.c',r.c'-1⟩]) ⟨x.args,A1,c1,y.args,A2,c2⟩;simp only at this;omega,qcF,O5.out,by simp[HM.out],?_,fun q hq=>?_⟩
             ·have:=qaL.out
              rw[iJ]at this⊢;simp only[List.length_append,List.length_singleton];rw[iJ,<-HM.out];exact this
             ·rcases List.mem_append.1 hq with hq|hq
              ·exact qcX.out q hq
              ·obtain rfl:=List.mem_singleton.1 hq
               exact⟨HXL.out,ZQ.out.args,HFY.out.args⟩
            all_goals (have:=Un.out;have:=Fm.size_eq x;have:=xP (st' ++ [⟨F',tl b o r.c,r.c-1,G',tl b' o' r.c',r.c'-1⟩]) ⟨x.args,A1,c1,y.args,A2,c2⟩;simp only at this;omega)
         ·have HR:=hid (show f.cmp g=bY x y by
           rw[Uk.out,cmp_eq,F8 hd,F8 hd])
          have hne:(bY x y != 0)=true:=lq hd;clear hd heq;go_wp2_with (first|(go_at_call 54;refine qag.out.mono ?_;rintro e W7 ⟨rfl,hdv⟩))
          go_ret
          exact⟨bn HR.out.symm,G7.out.trans (gV.mG hdv)⟩
 ·have hne:(bY f g != 0)=true:=lq hd
  have HR:=hid (show f.cmp g=bY f g by rw[cmp_eq,F8 hd]);clear hd;go_wp2_with (first|(go_at_call 54;refine HCN.out.mono ?_;rintro e V ⟨rfl,hdv⟩;have hbv:=HB.out.trans (gV.mG hdv);have hxv:dI V w.heap.size f A c:=fE.out.below (hdv.below _);obtain⟨x0,x1,x2,x3,x4,xl⟩:=hxv.cells))
  go_ret
  exact⟨bn HR.out.symm,hbv⟩
end Go.Proofs.YtdpbgcmfeajigaaGreatDoor
