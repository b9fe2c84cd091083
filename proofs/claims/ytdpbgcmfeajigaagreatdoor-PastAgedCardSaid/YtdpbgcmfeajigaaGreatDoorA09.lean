/-
  Walk of Compare.
-/
import Derived.Deep.LoopGhost
import Derived.Test.YtdpbgcmfeajigaaGreatDoorA08
set_option linter.unusedSimpArgs false
set_option linter.unusedVariables false
set_option maxHeartbeats 8000000
set_option maxRecDepth 100000
namespace Go.Proofs.YtdpbgcmfeajigaaGreatDoor
open Go.RowKit Go.Shelf
attribute [local go_sem] ak
theorem yS {K:Act->World->Prop}{a:Act}{w:World}(h:∀W,W=w->K a W):K a w:=h w rfl
theorem WJ:(Tryz.prog.info? 84).map (λ i=>(i.zero,i.size,i.bytes))=some (some (.agg #[.slice none 0 0,.slice none 0 0]),2,48):=by kernel_rfl
def tl (b o c:Nat):Option Addr:=if c=1 then some ⟨b,o,none⟩else some ⟨b,o+5,none⟩
theorem ZX (b o n c:Nat)(w:World)(hn:n+1<=c):(Instr.slice 22 (.slice (some ⟨b,o,none⟩) (n+1) c) (some (.int .i64 1)) none none).run Tryz.prog w = .ok (.slice (tl b o c) n (c-1)) w:=by
 unfold tl;have hf:=Tryz.underlying22;have hsz:=Tryz.sizeOf24;have h1:¬((n:Int)+1<1):=by omega
 by_cases h:c=1
 ·subst h
  simp[Instr.slice,run_underlying hf,hsz,Instr.sliceBounds,Instr.sliceBound,asIntOf,go_sem,h1]
 ·simp[Instr.slice,run_underlying hf,hsz,Instr.sliceBounds,Instr.sliceBound,asIntOf,go_sem,h,h1,Addr.add]
attribute [local go_sem] ZX
structure gV (w w':World):Prop where
 below:Below w.heap.size w w'
 drawn:w.drawn<=w'.drawn
theorem gV.nJ {w w':World}(h:aU w w'):gV w w':=⟨h.below _,by obtain⟨n,rfl⟩:=h;show w.drawn<=w.drawn+n;omega⟩
theorem gV.refl (w:World):gV w w:=⟨Below.refl _ _,Nat.le_refl _⟩
theorem gV.trans {w w' w'':World}(h:gV w w')(k:gV w' w''):gV w w'':=⟨h.below.trans (k.below.mono h.below.size),Nat.le_trans h.drawn k.drawn⟩
theorem gV.alloc {w w':World}(h:gV w w')(o:Obj):gV w (w'.alloc o):=⟨h.below.alloc h.below.size o,h.drawn⟩
theorem gV.drewN {w w':World}(h:gV w w')(n:Nat):gV w (w'.drewN n):=h.trans (gV.nJ ⟨n,rfl⟩)
theorem gV.set {w w':World}(h:gV w w')(p:Addr)(hp:w.heap.size<=p.block)(v:Value):gV w (w'.setCell p v):=⟨h.below.setCell hp v,h.drawn⟩
theorem Dt.alloc {w:World}{base size n tb cap:Nat}{v:Value}{xs:List Value}(h:Dt w base size v n xs tb cap)(o:Obj):Dt (w.alloc o) base size v n xs tb cap:=h.agree (aQ _ _ _ h.lt) (by simp)
theorem Dt.U8 {w:World}{base size n tb cap:Nat}{v:Value}{xs:List Value}(h:Dt w base size v n xs tb cap)(o:Obj):Dt (w.alloc o).drew base size v n xs tb cap:=(h.alloc o).agree (w':=(w.alloc o).drew) rfl (Nat.le_refl _)
def Iy (w:World)(c:Bool):Dom := λ b=>b<w.heap.size/\(c=true->Cl w b)
theorem oV {D E:Dom}(f g:Fm)(v v':Value)(w:World)(h:bI w D v f)(h':bI w E v' g)(hz:f.size<=1000000)(hcl:(∀b,D b->Cl w b)\/(∀b,E b->Cl w b)) :
  Calls Tryz.prog 16 #[v,v'] w λ e w'=>e = .returned (.int .i64 (f.cmp g))/\gV w w':=by
 obtain⟨i0,hti,hz0,hz1,hz2⟩:=info_parts WJ;obtain⟨A,c,rfl,ha⟩:=h;obtain⟨A',c',rfl,ha'⟩:=h'
 obtain⟨k1,k2,hcc,hc1,hc2⟩:∃k1 k2:Bool,(k1 || k2)=true/\(k1=true->∀b,D b->Cl w b)/\(k2=true->∀b,E b->Cl w b):=by
  rcases hcl with h|h
  ·exact⟨true,false,rfl,(λ _=>h),λ h=>by cases h⟩
  ·exact⟨false,true,rfl,(λ h=>by cases h),λ _=>h⟩
 have Py:=hid hcc;have HA:=hid (ha.mono (E:=Iy w k1) λ b hb hl=>⟨hl,λ h=>hc1 h b hb⟩);have HA':=hid (ha'.mono (E:=Iy w k2) λ b hb hl=>⟨hl,λ h=>hc2 h b hb⟩);clear ha ha' hcl hcc hc1 hc2
 go_enter Tryz.func16,Tryz.ntmps16
 go_upto_region 1 with(fail)
 refine aC λ W hW=>?_
 have hbx:dH W w.heap.size f A c:=by
  show W.heap[w.heap.size]?=_;rw[hW,aQ _ _ _ (by simp)];exact at_new _ _ _ rfl
 have qgi:dH W (w.heap.size+1) g A' c':=by
  show W.heap[w.heap.size+1]?=_;rw[hW];exact at_new _ _ _ (by simp)
 have hb:gV w W:=by rw[hW];exact((gV.refl w).alloc _).alloc _
 have hs:W.heap.size=w.heap.size+2:=by rw[hW];simp
 have dW:=hid hbx;have qcS:=hid qgi;have HB:=hid hb;have HS:=hid hs;clear hW hbx qgi hb hs;have HF:=hid (dH.yN (D := λ _=>True) dW.out trivial ((HA.out.keep (Keeps.of_below HB.out.below λ _ h=>h.1)).mono λ _ _ _=>trivial));have HF':=hid (dH.yN (D := λ _=>True) qcS.out trivial ((HA'.out.keep (Keeps.of_below HB.out.below λ _ h=>h.1)).mono λ _ _ _=>trivial));have HCN:=hid (Ah f g w.heap.size 0 (w.heap.size+1) 0 A A' c c' W HF.out HF'.out)
 by_cases hd:eH f g=0
 ·rw[hd]at HCN
  have HD:=hid hd;have hlen:=oZ hd;clear hd
  by_cases hl:f.args.length=0
  ·have HR:=hid (show f.cmp g=0 by
    rw[cmp_eq,HD.out,dK,List.eq_nil_of_length_eq_zero hl];rfl)
   have hl':(f.args.length:Int)=0:=by omega
   clear hlen;go_wp2_with (first|(go_at_call 54;refine HCN.out.mono ?_;rintro e V ⟨rfl,hdv⟩;have hbv:=HB.out.trans (gV.nJ hdv);have hxv:dH V w.heap.size f A c:=dW.out.below (hdv.below _);obtain⟨x0,x1,x2,x3,x4,xl⟩:=hxv.cells))
   go_ret
   exact⟨dD HR.out.symm,hbv⟩
  ·have hl':((f.args.length:Int)==0)=false:=by rw[beq_eq_false_iff_ne];omega
   have hpos:0<f.args.length:=by omega
   have HLEN:=hid hlen;clear hlen hl;go_wp2_with (first|(go_at_call 54;refine HCN.out.mono ?_;rintro e V ⟨rfl,hdv⟩;have hbv:=HB.out.trans (gV.nJ hdv);have hxv:dH V w.heap.size f A c:=dW.out.below (hdv.below _);have qeg:dH V (w.heap.size+1) g A' c':=qcS.out.below (hdv.below _);obtain⟨x0,x1,x2,x3,x4,xl⟩:=hxv.cells;obtain⟨y0,y1,y2,y3,y4,yl⟩:=qeg.cells))
   refine aC λ W4 Ej=>?_;have hb4:gV w W4:=by rw[Ej];exact hbv.alloc _
   have hs4:Dt W4 (w.heap.size+2) 2 (.slice (some ⟨V.heap.size,0,none⟩) 0 8) 0 [] V.heap.size 8:=by
    have hv:=hdv.below W.heap.size |>.size
    have:=HS.out;refine⟨rfl,by omega,by rw[Ej];simp,by omega,by decide,rfl,λ j u hu=>by simp at hu,λ j hj=>⟨?_,?_⟩⟩
    ·rw[Ej]
     have hnew:=at_new V (.cells (Array.replicate 16 (.slice none 0 0)) 85) V.heap.size rfl;rw[show(Array.replicate 16 (Value.slice none 0 0)) = #[.slice none 0 0,.slice none 0 0,.slice none 0 0,.slice none 0 0,.slice none 0 0,.slice none 0 0,.slice none 0 0,.slice none 0 0,.slice none 0 0,.slice none 0 0,.slice none 0 0,.slice none 0 0,.slice none 0 0,.slice none 0 0,.slice none 0 0,.slice none 0 0]from rfl]at hnew;rw[aj hnew (Array.getElem?_eq_getElem (by simpa using hj))];rfl
    ·rw[Ej];exact aA (at_new V _ V.heap.size rfl)
   obtain⟨tb0,qgG⟩:∃tb0,tb0=V.heap.size:=⟨_,rfl⟩;rw[<-qgG]at hs4⊢;have HB4:=hid hb4;have Xl:=hid hs4;have qdB:=hid (show w.heap.size+2<=W4.heap.size from by rw[Ej];simp;have:=hdv.below W.heap.size |>.size;have:=HS.out;omega);have hx4:dH W4 w.heap.size f A c:=by rw[Ej];exact hxv.below ((Below.refl _ _).alloc (Nat.le_refl _) _)
   have qgK:dH W4 (w.heap.size+1) g A' c':=by rw[Ej];exact qeg.below ((Below.refl _ _).alloc (Nat.le_refl _) _)
   clear Ej hs4 hb4 hxv qeg hbv hdv x0 x1 x2 x3 x4 xl y0 y1 y2 y3 y4 yl qgG;obtain⟨x0,x1,x2,x3,x4,xl⟩:=hx4.cells;obtain⟨y0,y1,y2,y3,y4,yl⟩:=qgK.cells;have htr:=Tryz.underlying86
   go_region_law
    ((refine vY _ (by rfl) _ _ 86 (by rfl) (w.heap.size+2) 84 i0 _ 2 48 Tryz.underlying86 hti hz0 hz1 hz2 rfl (by omega) (.slice (some ⟨tb0,0,none⟩) 0 8) 0 [] tb0 8 (by rfl) (Xl.out.agree (aQ _ _ _ Xl.out.lt) (by simp)) _ (some ⟨W4.heap.size,0,none⟩) 1 1 _ (by omega) (by rfl) (Rd.fresh (D := λ _=>True) rfl trivial rfl (by omega)) (by simp[Value.oneCell']) (by omega) (dJ (by omega)) (by have:=qdB.out;simp;omega) ?_;intro tb5 c5 w5 hst5 hg5 Em YW))
   all_goals
    have hsz5:=hg5.size
    have LY:Below w.heap.size w w5:=by
     refine Below.grown (HB4.out.below.trans (Below.mono (B:=W4.heap.size) (by go_grown) HB4.out.below.size)) hg5 (by simp;have:=qdB.out;omega) (λ k hk=>by injection hk with hk;subst hk;have:=Xl.out.ge;omega)
    have hb5:gV w w5:=⟨LY,Nat.le_trans HB4.out.drawn (Nat.le_trans (by simp) YW)⟩;have qcD:Dt w5 (w.heap.size+2) 2 (.slice (some ⟨tb5,0,none⟩) 1 c5) 1 (iJ [⟨f.args,A,c,g.args,A',c'⟩]) tb5 c5:=hst5;have qaV:=hid qcD;have Px:=hid hb5;clear hst5 hg5 Em YW LY hb5 qcD hsz5 x0 x1 x2 x3 x4 xl y0 y1 y2 y3 y4 yl hx4 qgK Xl HB4 qdB;have HCT:=hid (show f.cmp g=Eh [⟨f.args,A,c,g.args,A',c'⟩]by rw[cmp_eq,HD.out,dK];simp[Eh,KW]);have HMT:=hid (show mT [⟨f.args,A,c,g.args,A',c'⟩]<=2000001 by have:=Fm.size_eq f;simp[mT];omega);(try simp only[Exit.then,Act.put,List.getElem_toArray,List.getElem_cons_succ,List.getElem_cons_zero,List.setIfInBounds_toArray,List.set_cons_zero,List.set_cons_succ]);go_wp2_with fail
    go_loopg [7] (mT [⟨f.args,A,c,g.args,A',c'⟩]) (λ gk v wr=>∃(st:List Rest) (tb cap:Nat),gk=mT st/\mT st<=2000001/\Hid (f.cmp g=Eh st)/\gV w wr/\v = .slice (some ⟨tb,0,none⟩) st.length cap/\Dt wr (w.heap.size+2) 2 v st.length (iJ st) tb cap/\(∀r,r∈st->ZQ w (Iy w k1) (Iy w k2) r))
    case atStart =>
     refine⟨_,tb5,c5,rfl,HMT.out,HCT,Px.out,rfl,qaV.out,λ r hr=>?_⟩;obtain rfl:=List.mem_singleton.1 hr;exact⟨HLEN.out,HA.out,HA'.out⟩
    case round =>
     clear qaV Px HCT HMT HD hl' hpos HLEN HCN HF HF' dW qcS HB HS;obtain⟨st,tb,cap,rfl,hmt,HCT,hb,rfl,hst,hok⟩:=hrel
     rcases List.eq_nil_or_concat st with rfl|⟨st',r,rfl⟩
     ·have gB:=hid hb
      have HR:=hid (HCT.out.trans Yu);clear hok hst hb hmt;go_wp2_with fail
      go_ret
      exact⟨dD HR.out.symm,gB.out⟩
     ·simp only[List.concat_eq_append]at *
      obtain⟨m,hm⟩:∃m,m=st'.length:=⟨_,rfl⟩;have hlen1:(st' ++ [r]).length=m+1:=by simp[hm]
      have qgy:=hok;obtain⟨hrl,hra,hrg⟩:=hok r (by simp);have hcell0:=hst.at_ (m*2) (.slice r.a r.f.length r.c) (by rw[iU,List.getElem?_append_right (by rw[jX,hm];exact Nat.le_refl _),jX,hm,Nat.sub_self];rfl);have hcell1:=hst.at_ (m*2+1) (.slice r.a' r.g.length r.c') (by rw[iU,List.getElem?_append_right (by rw[jX,hm];omega),jX,hm,show st'.length*2+1-st'.length*2=1 by omega];rfl);have hroom:=hst.room;rw[hlen1]at hst hroom⊢;have hfr0:=(hst.all (m*2) (by omega)).2;have YZ:=(hst.all (m*2+1) (by omega)).2;have hi1:((m+1:Nat):Int)-1=(m:Int):=by omega
      have hmb:m<=2000001:=by have:=Zz (st' ++ [r]);simp at this;omega
      have htl:=hst.lt;have hcapm:=hst.max;have HST:=hid hst;have gB:=hid hb;have HM:=hid hm;have lM:=hid qgy;have HMT:=hid hmt;clear hst hb hm hok qgy hmt hlen1
      by_cases hrf:r.f.length=0
      ·have hrf0:(r.f.length:Int)=0:=by omega
       rw[hrf]at hcell0;have UE:=hid (show f.cmp g=Eh st' by rw[HCT.out,xX,List.eq_nil_of_length_eq_zero hrf];rfl);clear hrf hrf0;go_wp2_with fail
       go_roundg (mT st')
       case rel =>
        have qgD:=HST.out.take (k:=m) (Nat.le_succ m);rw[Gs st' r HM.out]at qgD;exact⟨st',tb,cap,rfl,by have:=yC st' r;have:=HMT.out;omega,UE,gB.out,by rw[<-HM.out],by rw[<-HM.out];exact qgD,λ r hr=>lM.out r (by simp[hr])⟩
       all_goals (have:=yC st' r;omega)
      ·obtain⟨x,F',hxf⟩:∃x F',r.f=x :: F':=by
        cases hf:r.f with
        | nil=>rw[hf]at hrf;exact absurd rfl hrf
        | cons x F'=>exact⟨x,F',rfl⟩
       obtain⟨y,G',hyg⟩:∃y G',r.g=y :: G':=by
        cases hf:r.g with
        | nil=>rw[hf]at hrl;rw[hrl]at hrf;exact absurd rfl hrf
        | cons x F'=>exact⟨x,F',rfl⟩
       rw[hxf]at hra hcell0 hrl;rw[hyg]at hrg hcell1 hrl;obtain⟨b,o,A1,c1,x',ha,hx',hfx⟩:=hra.get (k:=0) (by simp);obtain⟨b',o',A2,c2,y',ha',hy',hfy⟩:=hrg.get (k:=0) (by simp);obtain rfl:x=x':=by have:=hx'.out;simpa using this
       obtain rfl:y=y':=by have:=hy'.out;simpa using this
       rw[ha]at hra hcell0;rw[ha']at hrg hcell1;rw[Nat.zero_mul,Nat.add_zero]at hfx hfy;simp only[List.length_cons]at hcell0 hcell1 hrl;have hn1:F'.length+1<=r.c:=hra.len.2.1;have hn2:G'.length+1<=r.c':=hrg.len.2.1;have hx1:((F'.length:Int)+1==0)=false:=by rw[beq_eq_false_iff_ne];omega
       have hf0:(0:Int)<(F'.length:Int)+1:=by omega
       have hg0:(0:Int)<(G'.length:Int)+1:=by omega
       have HRT:=hid hra.tail;have HRT':=hid hrg.tail;have HFX:=hid hfx;have HFY:=hid hfy;have pK:=hid hrl
       have UE:=hid (show f.cmp g=nz (x.cmp y) (Eh (st' ++ [⟨F',tl b o r.c,r.c-1,G',tl b' o' r.c',r.c'-1⟩]))by
        rw[HCT.out,xX,xX,hxf,hyg];show nz (nz (x.cmp y) (jY F' G')) _=_
        rw[Gf])
       have UM:=hid (show mT (st' ++ [⟨F',tl b o r.c,r.c-1,G',tl b' o' r.c',r.c'-1⟩])+2*x.size=mT (st' ++ [r])by
        rw[yC,yC,hxf]
        simp only[sizes];omega)
       have hbv:=hfx.lt;have hbv':=hfy.lt;clear hrf hxf hyg hra hrg ha ha' hx' hy' hfx hfy hrl;go_wp2_with fail
       go_quiet (fail)
       go_wp2_with fail
       obtain⟨V1,hV1,qbs⟩:∃V1,V1=wr.drewN nq/\aU wr V1:=⟨_,rfl,nq,rfl⟩;rw[<-hV1];have e0:V1.cell? ⟨tb,m*2,none⟩=some (.slice (some ⟨b,o,none⟩) (F'.length+1) r.c):=by rw[hV1];exact hcell0
       have e1:V1.cell? ⟨tb,m*2+1,none⟩=some (.slice (some ⟨b',o',none⟩) (G'.length+1) r.c'):=by rw[hV1];exact hcell1
       have e2:V1.frozen? ⟨tb,m*2,none⟩=false:=by rw[hV1];exact hfr0
       have e3:V1.frozen? ⟨tb,m*2+1,none⟩=false:=by rw[hV1];exact YZ
       have e4:tb<V1.heap.size:=by rw[hV1];exact htl
       have qdx:=hid (HST.out.agree (w':=V1) (by rw[hV1];rfl) (by rw[hV1];exact Nat.le_refl _));have HB1:=hid (gB.out.trans (gV.nJ qbs));clear hV1 qbs hcell0 hcell1 hfr0 YZ htl HST
       go_region_law (fail)
       all_goals
        (try simp only[Exit.then,Act.put,List.getElem_toArray,List.getElem_cons_succ,List.getElem_cons_zero,List.setIfInBounds_toArray,List.set_cons_zero,List.set_cons_succ]);refine yS λ W6 Ui=>?_
        have qgC:Dt W6 (w.heap.size+2) 2 (.slice (some ⟨tb,0,none⟩) (m+1) cap) (m+1) (iJ (st' ++ [⟨F',tl b o r.c,r.c-1,G',tl b' o' r.c',r.c'-1⟩])) tb cap:=by
         rw[Ui]
         first
          | exact(by
            have h1:=(qdx.out.set (m*2) (.slice (tl b o r.c) F'.length (r.c-1)) (by omega)).set (m*2+1) (.slice (tl b' o' r.c') G'.length (r.c'-1)) (by omega);rw[Ig st' r ⟨F',tl b o r.c,r.c-1,G',tl b' o' r.c',r.c'-1⟩ HM.out]at h1
            exact h1.agree rfl (Nat.le_refl _))
          | exact(by
            have h1:=(qdx.out.set (m*2+1) (.slice (tl b' o' r.c') G'.length (r.c'-1)) (by omega)).set (m*2) (.slice (tl b o r.c) F'.length (r.c-1)) (by omega);rw[ZP st' r ⟨F',tl b o r.c,r.c-1,G',tl b' o' r.c',r.c'-1⟩ HM.out]at h1
            exact h1.agree rfl (Nat.le_refl _))
        have hge:=qdx.out.ge
        have hb6:gV w W6:=by
         rw[Ui];exact((HB1.out.set _ (show w.heap.size<=tb by omega) _).set _ (show w.heap.size<=tb by omega) _).drewN 1
        have qfO:=hid qgC;have Hf:=hid hb6;have qaD:=hid (HFX.out.keep (Keeps.of_below hb6.below λ _ h=>h.1));have qaE:=hid (HFY.out.keep (Keeps.of_below hb6.below λ _ h=>h.1))
        have qdl:=hid (show∀q,q∈st' ++ [⟨F',tl b o r.c,r.c-1,G',tl b' o' r.c',r.c'-1⟩]->ZQ w (Iy w k1) (Iy w k2) q from λ q hq=>by
         rcases List.mem_append.1 hq with hq|hq
         ·exact lM.out q (by simp[hq])
         ·obtain rfl:=List.mem_singleton.1 hq
          exact⟨by have:=pK.out;simpa using this,HRT.out,HRT'.out⟩)
        clear Ui qgC hb6 hge e0 e1 e2 e3 e4
        by_cases hpe:b=b'/\o=o'
        ·obtain⟨rfl,rfl⟩:=hpe
         obtain rfl:=dU.uniq qaD.out qaE.out;have HCT3:=hid (show f.cmp g=Eh (st' ++ [⟨F',tl b o r.c,r.c-1,G',tl b o r.c',r.c'-1⟩])by rw[UE.out,tY,dK]);have heq := λ W':World=>tZ (w:=W') (b:=b) (o:=o);go_wp2_with fail
         go_roundg (mT (st' ++ [⟨F',tl b o r.c,r.c-1,G',tl b o r.c',r.c'-1⟩]))
         case rel=>exact⟨_,tb,cap,rfl,by have:=UM.out;have:=HMT.out;omega,HCT3,Hf.out,by simp[HM.out],by simp only[List.length_append,List.length_singleton];rw[<-HM.out];exact qfO.out,qdl.out⟩
         all_goals (have:=UM.out;have:=Fm.size_eq x;omega)
        ·have heq:=Aj qaD.out.c0 qaE.out.c0 (by
          rcases(Bool.or_eq_true _ _).mp Py.out with hc|hc
          ·exact .inl ((HFX.out.dom.2 hc).of_eq (Hf.out.below.block _ HFX.out.dom.1))
          ·exact .inr ((HFY.out.dom.2 hc).of_eq (Hf.out.below.block _ HFY.out.dom.1))) hpe
         have qaB:=hid (Ah x y b o b' o' _ _ _ _ W6 qaD.out qaE.out);go_upto_region 13 with(fail)
         by_cases hd:eH x y=0
         ·rw[hd]at qaB
          have HD:=hid hd;have hxl:=oZ hd;clear hd heq;go_upto_region 16 with(first|(go_at_call 54;refine qaB.out.mono ?_;rintro e W7 ⟨rfl,hdv⟩))
          have zh:=hid (Hf.out.trans (gV.nJ hdv));have qd6:=qaD.out.keep (hdv.keeps);have qd7:=qaE.out.keep (hdv.keeps);have hx4:=qd6.c4;have hx4l:=qd6.lt;have hy4:=qd7.c4;have hy4l:=qd7.lt;have Qy:=hid (qfO.out.agree (w':=W7) (by obtain⟨n,rfl⟩:=hdv;rfl) (by obtain⟨n,rfl⟩:=hdv;exact Nat.le_refl _));have qdC:=hid (show w.heap.size+2<=W7.heap.size from by have:=Qy.out.ge;have:=Qy.out.lt;omega);clear qd6 qd7 hdv qaB
          by_cases hxa:x.args.length=0
          ·have hxa':¬(0:Int)<(x.args.length:Int):=by omega
           have qcW:=hid (show f.cmp g=Eh (st' ++ [⟨F',tl b o r.c,r.c-1,G',tl b' o' r.c',r.c'-1⟩])by
            rw[UE.out,cmp_eq,HD.out,dK,List.eq_nil_of_length_eq_zero hxa];rfl)
           clear hxa hxl;go_wp2_with fail
           go_roundg (mT (st' ++ [⟨F',tl b o r.c,r.c-1,G',tl b' o' r.c',r.c'-1⟩]))
           case rel=>exact⟨_,tb,cap,rfl,by have:=UM.out;have:=HMT.out;omega,qcW,zh.out,by simp[HM.out],by simp only[List.length_append,List.length_singleton];rw[<-HM.out];exact Qy.out,qdl.out⟩
           all_goals (have:=UM.out;have:=Fm.size_eq x;omega)
          ·have hxa':(0:Int)<(x.args.length:Int):=by omega
           have HXL:=hid hxl;clear hxa hxl;go_upto_region 17 with(fail)
           go_region_law
            ((refine vY _ (by rfl) _ _ 86 (by rfl) (w.heap.size+2) 84 i0 _ 2 48 Tryz.underlying86 hti hz0 hz1 hz2 rfl (by omega) (.slice (some ⟨tb,0,none⟩) (m+1) cap) (m+1) (iJ (st' ++ [⟨F',tl b o r.c,r.c-1,G',tl b' o' r.c',r.c'-1⟩])) tb cap (by rfl) (by first|exact Qy.out.alloc _|exact Qy.out.U8 _) _ (some ⟨W7.heap.size,0,none⟩) 1 1 _ (by omega) (by rfl) (Rd.fresh (D := λ _=>True) rfl trivial rfl (by omega)) (by simp[Value.oneCell']) (by omega) (dJ (by omega)) (by have:=qdC.out;simp;omega) ?_;intro tb5 c5 w5 hst5 hg5 Em YW))
           all_goals
            have hsz5:=hg5.size
            have LY:Below w.heap.size w w5:=by
             refine Below.grown (zh.out.below.trans (Below.mono (B:=W7.heap.size) (by go_grown) zh.out.below.size)) hg5 (by simp;have:=qdC.out;omega) (λ k hk=>by injection hk with hk;subst hk;have:=Qy.out.ge;omega)
            have hb5:gV w w5:=⟨LY,Nat.le_trans zh.out.drawn (Nat.le_trans (by simp) YW)⟩;have qaV:=hid hst5;have Px:=hid hb5;clear hst5 hg5 Em YW LY hb5 hsz5 hx4 hx4l hy4 hy4l Qy zh qdC
            have qcW:=hid (show f.cmp g=Eh ((st' ++ [⟨F',tl b o r.c,r.c-1,G',tl b' o' r.c',r.c'-1⟩]) ++ [⟨x.args,A1,c1,y.args,A2,c2⟩])by
             rw[UE.out,cmp_eq,HD.out,dK];exact(xX (st' ++ [⟨F',tl b o r.c,r.c-1,G',tl b' o' r.c',r.c'-1⟩]) ⟨x.args,A1,c1,y.args,A2,c2⟩).symm)
            (try simp only[Exit.then,Act.put,List.getElem_toArray,List.getElem_cons_succ,List.getElem_cons_zero,List.setIfInBounds_toArray,List.set_cons_zero,List.set_cons_succ]);go_wp2_with fail
            go_roundg (mT ((st' ++ [⟨F',tl b o r.c,r.c-1,G',tl b' o' r.c',r.c'-1⟩]) ++ [⟨x.args,A1,c1,y.args,A2,c2⟩]))
            case rel =>
             refine⟨_,tb5,c5,rfl,by have:=UM.out;have:=HMT.out;have:=Fm.size_eq x;have:=yC (st' ++ [⟨F',tl b o r.c,r.c-1,G',tl b' o' r.c',r.c'-1⟩]) ⟨x.args,A1,c1,y.args,A2,c2⟩;simp only at this;omega,qcW,Px.out,by simp[HM.out],?_,λ q hq=>?_⟩
             ·have:=qaV.out
              rw[iU]at this⊢;simp only[List.length_append,List.length_singleton];rw[iU,<-HM.out];exact this
             ·rcases List.mem_append.1 hq with hq|hq
              ·exact qdl.out q hq
              ·obtain rfl:=List.mem_singleton.1 hq
               exact⟨HXL.out,HFX.out.args,HFY.out.args⟩
            all_goals (have:=UM.out;have:=Fm.size_eq x;have:=yC (st' ++ [⟨F',tl b o r.c,r.c-1,G',tl b' o' r.c',r.c'-1⟩]) ⟨x.args,A1,c1,y.args,A2,c2⟩;simp only at this;omega)
         ·have HR:=hid (show f.cmp g=eH x y by
           rw[UE.out,cmp_eq,Gg hd,Gg hd])
          have hne:(eH x y != 0)=true:=mG hd;clear hd heq;go_wp2_with (first|(go_at_call 54;refine qaB.out.mono ?_;rintro e W7 ⟨rfl,hdv⟩))
          go_ret
          exact⟨dD HR.out.symm,Hf.out.trans (gV.nJ hdv)⟩
 ·have hne:(eH f g != 0)=true:=mG hd
  have HR:=hid (show f.cmp g=eH f g by rw[cmp_eq,Gg hd]);clear hd;go_wp2_with (first|(go_at_call 54;refine HCN.out.mono ?_;rintro e V ⟨rfl,hdv⟩;have hbv:=HB.out.trans (gV.nJ hdv);have hxv:dH V w.heap.size f A c:=dW.out.below (hdv.below _);obtain⟨x0,x1,x2,x3,x4,xl⟩:=hxv.cells))
  go_ret
  exact⟨dD HR.out.symm,hbv⟩
end Go.Proofs.YtdpbgcmfeajigaaGreatDoor
