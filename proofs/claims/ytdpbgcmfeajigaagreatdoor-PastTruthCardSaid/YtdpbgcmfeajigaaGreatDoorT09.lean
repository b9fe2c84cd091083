/-
  Walk of Compare.
-/
import Derived.Deep.LoopGhost
import Derived.Test.YtdpbgcmfeajigaaGreatDoorT08
set_option linter.unusedSimpArgs false
set_option linter.unusedVariables false
set_option maxHeartbeats 8000000
set_option maxRecDepth 100000
namespace Go.Proofs.YtdpbgcmfeajigaaGreatDoor
open Go.RowKit Go.Shelf
attribute [local go_sem] ak
theorem yM {K:Act->World->Prop}{a:Act}{w:World}(h:∀W,W=w->K a W):K a w:=h w rfl
theorem Vu:(Tryz.prog.info? 84).map (fun i=>(i.zero,i.size,i.bytes))=some (some (.agg #[.slice none 0 0,.slice none 0 0]),2,48):=by kernel_rfl
def tl (b o c:Nat):Option Addr:=if c=1 then some ⟨b,o,none⟩else some ⟨b,o+5,none⟩
theorem YW (b o n c:Nat)(w:World)(hn:n+1<=c):(Instr.slice 22 (.slice (some ⟨b,o,none⟩) (n+1) c) (some (.int .i64 1)) none none).run Tryz.prog w = .ok (.slice (tl b o c) n (c-1)) w:=by
 unfold tl;have hf:=Tryz.underlying22;have hsz:=Tryz.sizeOf24;have h1:¬((n:Int)+1<1):=by omega
 by_cases h:c=1
 ·subst h
  simp[Instr.slice,run_underlying hf,hsz,Instr.sliceBounds,Instr.sliceBound,asIntOf,go_sem,h1]
 ·simp[Instr.slice,run_underlying hf,hsz,Instr.sliceBounds,Instr.sliceBound,asIntOf,go_sem,h,h1,Addr.add]
attribute [local go_sem] YW
structure gZ (w w':World):Prop where
 below:Below w.heap.size w w'
 drawn:w.drawn<=w'.drawn
theorem gZ.mV {w w':World}(h:aV w w'):gZ w w':=⟨h.below _,by obtain⟨n,rfl⟩:=h;show w.drawn<=w.drawn+n;omega⟩
theorem gZ.refl (w:World):gZ w w:=⟨Below.refl _ _,Nat.le_refl _⟩
theorem gZ.trans {w w' w'':World}(h:gZ w w')(k:gZ w' w''):gZ w w'':=⟨h.below.trans (k.below.mono h.below.size),Nat.le_trans h.drawn k.drawn⟩
theorem gZ.alloc {w w':World}(h:gZ w w')(o:Obj):gZ w (w'.alloc o):=⟨h.below.alloc h.below.size o,h.drawn⟩
theorem gZ.drewN {w w':World}(h:gZ w w')(n:Nat):gZ w (w'.drewN n):=h.trans (gZ.mV ⟨n,rfl⟩)
theorem gZ.set {w w':World}(h:gZ w w')(p:Addr)(hp:w.heap.size<=p.block)(v:Value):gZ w (w'.setCell p v):=⟨h.below.setCell hp v,h.drawn⟩
theorem Dn.alloc {w:World}{base size n tb cap:Nat}{v:Value}{xs:List Value}(h:Dn w base size v n xs tb cap)(o:Obj):Dn (w.alloc o) base size v n xs tb cap:=h.agree (aQ _ _ _ h.lt) (by simp)
theorem Dn.Uk {w:World}{base size n tb cap:Nat}{v:Value}{xs:List Value}(h:Dn w base size v n xs tb cap)(o:Obj):Dn (w.alloc o).drew base size v n xs tb cap:=(h.alloc o).agree (w':=(w.alloc o).drew) rfl (Nat.le_refl _)
def Iw (w:World)(c:Bool):Dom:=fun b=>b<w.heap.size/\(c=true->Cl w b)
theorem oP {D E:Dom}(f g:Fm)(v v':Value)(w:World)(h:bI w D v f)(h':bI w E v' g)(hz:f.size<=1000000)(hcl:(∀b,D b->Cl w b)\/(∀b,E b->Cl w b)) :
  Calls Tryz.prog 16 #[v,v'] w fun e w'=>e = .returned (.int .i64 (f.cmp g))/\gZ w w':=by
 obtain⟨i0,hti,hz0,hz1,hz2⟩:=info_parts Vu;obtain⟨A,c,rfl,ha⟩:=h;obtain⟨A',c',rfl,ha'⟩:=h'
 obtain⟨k1,k2,hcc,hc1,hc2⟩:∃k1 k2:Bool,(k1 || k2)=true/\(k1=true->∀b,D b->Cl w b)/\(k2=true->∀b,E b->Cl w b):=by
  rcases hcl with h|h
  ·exact⟨true,false,rfl,(fun _=>h),fun h=>by cases h⟩
  ·exact⟨false,true,rfl,(fun h=>by cases h),fun _=>h⟩
 have sN:=hid hcc;have HA:=hid (ha.mono (E:=Iw w k1) fun b hb hl=>⟨hl,fun h=>hc1 h b hb⟩);have HA':=hid (ha'.mono (E:=Iw w k2) fun b hb hl=>⟨hl,fun h=>hc2 h b hb⟩);clear ha ha' hcl hcc hc1 hc2
 go_enter Tryz.func16,Tryz.ntmps16
 go_upto_region 1 with(fail)
 refine aF fun W hW=>?_
 have hbx:dF W w.heap.size f A c:=by
  show W.heap[w.heap.size]?=_;rw[hW,aQ _ _ _ (by simp)];exact at_new _ _ _ rfl
 have qfc:dF W (w.heap.size+1) g A' c':=by
  show W.heap[w.heap.size+1]?=_;rw[hW];exact at_new _ _ _ (by simp)
 have hb:gZ w W:=by rw[hW];exact((gZ.refl w).alloc _).alloc _
 have hs:W.heap.size=w.heap.size+2:=by rw[hW];simp
 have dO:=hid hbx;have qbV:=hid qfc;have HB:=hid hb;have HS:=hid hs;clear hW hbx qfc hb hs;have HF:=hid (dF.yH (D:=fun _=>True) dO.out trivial ((HA.out.keep (Keeps.of_below HB.out.below fun _ h=>h.1)).mono fun _ _ _=>trivial));have HF':=hid (dF.yH (D:=fun _=>True) qbV.out trivial ((HA'.out.keep (Keeps.of_below HB.out.below fun _ h=>h.1)).mono fun _ _ _=>trivial));have Zv:=hid (zZ f g w.heap.size 0 (w.heap.size+1) 0 A A' c c' W HF.out HF'.out)
 by_cases hd:bZ f g=0
 ·rw[hd]at Zv
  have HD:=hid hd;have hlen:=gQ hd;clear hd
  by_cases hl:f.args.length=0
  ·have HR:=hid (show f.cmp g=0 by
    rw[cmp_eq,HD.out,dJ,List.eq_nil_of_length_eq_zero hl];rfl)
   have hl':(f.args.length:Int)=0:=by omega
   clear hlen;go_wp2_with (first|(go_at_call 54;refine Zv.out.mono ?_;rintro e V ⟨rfl,hdv⟩;have hbv:=HB.out.trans (gZ.mV hdv);have hxv:dF V w.heap.size f A c:=dO.out.below (hdv.below _);obtain⟨x0,x1,x2,x3,x4,xl⟩:=hxv.cells))
   go_ret
   exact⟨bD HR.out.symm,hbv⟩
  ·have hl':((f.args.length:Int)==0)=false:=by rw[beq_eq_false_iff_ne];omega
   have hpos:0<f.args.length:=by omega
   have HLEN:=hid hlen;clear hlen hl;go_wp2_with (first|(go_at_call 54;refine Zv.out.mono ?_;rintro e V ⟨rfl,hdv⟩;have hbv:=HB.out.trans (gZ.mV hdv);have hxv:dF V w.heap.size f A c:=dO.out.below (hdv.below _);have qdi:dF V (w.heap.size+1) g A' c':=qbV.out.below (hdv.below _);obtain⟨x0,x1,x2,x3,x4,xl⟩:=hxv.cells;obtain⟨y0,y1,y2,y3,y4,yl⟩:=qdi.cells))
   refine aF fun W4 Ef=>?_;have hb4:gZ w W4:=by rw[Ef];exact hbv.alloc _
   have hs4:Dn W4 (w.heap.size+2) 2 (.slice (some ⟨V.heap.size,0,none⟩) 0 8) 0 [] V.heap.size 8:=by
    have hv:=hdv.below W.heap.size |>.size
    have:=HS.out;refine⟨rfl,by omega,by rw[Ef];simp,by omega,by decide,rfl,fun j u hu=>by simp at hu,fun j hj=>⟨?_,?_⟩⟩
    ·rw[Ef]
     have hnew:=at_new V (.cells (Array.replicate 16 (.slice none 0 0)) 85) V.heap.size rfl;rw[show(Array.replicate 16 (Value.slice none 0 0)) = #[.slice none 0 0,.slice none 0 0,.slice none 0 0,.slice none 0 0,.slice none 0 0,.slice none 0 0,.slice none 0 0,.slice none 0 0,.slice none 0 0,.slice none 0 0,.slice none 0 0,.slice none 0 0,.slice none 0 0,.slice none 0 0,.slice none 0 0,.slice none 0 0]from rfl]at hnew;rw[aj hnew (Array.getElem?_eq_getElem (by simpa using hj))];rfl
    ·rw[Ef];exact aA (at_new V _ V.heap.size rfl)
   obtain⟨tb0,qfA⟩:∃tb0,tb0=V.heap.size:=⟨_,rfl⟩;rw[<-qfA]at hs4⊢;have HB4:=hid hb4;have VX:=hid hs4;have qcv:=hid (show w.heap.size+2<=W4.heap.size from by rw[Ef];simp;have:=hdv.below W.heap.size |>.size;have:=HS.out;omega);have hx4:dF W4 w.heap.size f A c:=by rw[Ef];exact hxv.below ((Below.refl _ _).alloc (Nat.le_refl _) _)
   have qfD:dF W4 (w.heap.size+1) g A' c':=by rw[Ef];exact qdi.below ((Below.refl _ _).alloc (Nat.le_refl _) _)
   clear Ef hs4 hb4 hxv qdi hbv hdv x0 x1 x2 x3 x4 xl y0 y1 y2 y3 y4 yl qfA;obtain⟨x0,x1,x2,x3,x4,xl⟩:=hx4.cells;obtain⟨y0,y1,y2,y3,y4,yl⟩:=qfD.cells;have htr:=Tryz.underlying86
   go_region_law
    ((refine vO _ (by rfl) _ _ 86 (by rfl) (w.heap.size+2) 84 i0 _ 2 48 Tryz.underlying86 hti hz0 hz1 hz2 rfl (by omega) (.slice (some ⟨tb0,0,none⟩) 0 8) 0 [] tb0 8 (by rfl) (VX.out.agree (aQ _ _ _ VX.out.lt) (by simp)) _ (some ⟨W4.heap.size,0,none⟩) 1 1 _ (by omega) (by rfl) (Rd.fresh (D:=fun _=>True) rfl trivial rfl (by omega)) (by simp[Value.oneCell']) (by omega) (dI (by omega)) (by have:=qcv.out;simp;omega) ?_;intro tb5 c5 w5 hst5 hg5 Eh X6))
   all_goals
    have hsz5:=hg5.size
    have FT:Below w.heap.size w w5:=by
     refine Below.grown (HB4.out.below.trans (Below.mono (B:=W4.heap.size) (by go_grown) HB4.out.below.size)) hg5 (by simp;have:=qcv.out;omega) (fun k hk=>by injection hk with hk;subst hk;have:=VX.out.ge;omega)
    have hb5:gZ w w5:=⟨FT,Nat.le_trans HB4.out.drawn (Nat.le_trans (by simp) X6)⟩;have qbH:Dn w5 (w.heap.size+2) 2 (.slice (some ⟨tb5,0,none⟩) 1 c5) 1 (iK [⟨f.args,A,c,g.args,A',c'⟩]) tb5 c5:=hst5;have ZU:=hid qbH;have Io:=hid hb5;clear hst5 hg5 Eh X6 FT hb5 qbH hsz5 x0 x1 x2 x3 x4 xl y0 y1 y2 y3 y4 yl hx4 qfD VX HB4 qcv;have HCT:=hid (show f.cmp g=Ed [⟨f.args,A,c,g.args,A',c'⟩]by rw[cmp_eq,HD.out,dJ];simp[Ed,rJ]);have HMT:=hid (show mT [⟨f.args,A,c,g.args,A',c'⟩]<=2000001 by have:=Fm.size_eq f;simp[mT];omega);(try simp only[Exit.then,Act.put,List.getElem_toArray,List.getElem_cons_succ,List.getElem_cons_zero,List.setIfInBounds_toArray,List.set_cons_zero,List.set_cons_succ]);go_wp2_with fail
    go_loopg [7] (mT [⟨f.args,A,c,g.args,A',c'⟩]) (fun gk v wr=>∃(st:List Rest) (tb cap:Nat),gk=mT st/\mT st<=2000001/\Hid (f.cmp g=Ed st)/\gZ w wr/\v = .slice (some ⟨tb,0,none⟩) st.length cap/\Dn wr (w.heap.size+2) 2 v st.length (iK st) tb cap/\(∀r,r∈st->YQ w (Iw w k1) (Iw w k2) r))
    case atStart =>
     refine⟨_,tb5,c5,rfl,HMT.out,HCT,Io.out,rfl,ZU.out,fun r hr=>?_⟩;obtain rfl:=List.mem_singleton.1 hr;exact⟨HLEN.out,HA.out,HA'.out⟩
    case round =>
     clear ZU Io HCT HMT HD hl' hpos HLEN Zv HF HF' dO qbV HB HS;obtain⟨st,tb,cap,rfl,hmt,HCT,hb,rfl,hst,hok⟩:=hrel
     rcases List.eq_nil_or_concat st with rfl|⟨st',r,rfl⟩
     ·have dG:=hid hb
      have HR:=hid (HCT.out.trans Xz);clear hok hst hb hmt;go_wp2_with fail
      go_ret
      exact⟨bD HR.out.symm,dG.out⟩
     ·simp only[List.concat_eq_append]at *
      obtain⟨m,hm⟩:∃m,m=st'.length:=⟨_,rfl⟩;have hlen1:(st' ++ [r]).length=m+1:=by simp[hm]
      have qfs:=hok;obtain⟨hrl,hra,hrg⟩:=hok r (by simp);have hcell0:=hst.at_ (m*2) (.slice r.a r.f.length r.c) (by rw[iV,List.getElem?_append_right (by rw[jS,hm];exact Nat.le_refl _),jS,hm,Nat.sub_self];rfl);have hcell1:=hst.at_ (m*2+1) (.slice r.a' r.g.length r.c') (by rw[iV,List.getElem?_append_right (by rw[jS,hm];omega),jS,hm,show st'.length*2+1-st'.length*2=1 by omega];rfl);have hroom:=hst.room;rw[hlen1]at hst hroom⊢;have hfr0:=(hst.all (m*2) (by omega)).2;have X8:=(hst.all (m*2+1) (by omega)).2;have hi1:((m+1:Nat):Int)-1=(m:Int):=by omega
      have hmb:m<=2000001:=by have:=YA (st' ++ [r]);simp at this;omega
      have htl:=hst.lt;have hcapm:=hst.max;have HST:=hid hst;have dG:=hid hb;have HM:=hid hm;have lu:=hid qfs;have HMT:=hid hmt;clear hst hb hm hok qfs hmt hlen1
      by_cases hrf:r.f.length=0
      ·have hrf0:(r.f.length:Int)=0:=by omega
       rw[hrf]at hcell0;have TT:=hid (show f.cmp g=Ed st' by rw[HCT.out,xO,List.eq_nil_of_length_eq_zero hrf];rfl);clear hrf hrf0;go_wp2_with fail
       go_roundg (mT st')
       case rel =>
        have qfx:=HST.out.take (k:=m) (Nat.le_succ m);rw[Gp st' r HM.out]at qfx;exact⟨st',tb,cap,rfl,by have:=yh st' r;have:=HMT.out;omega,TT,dG.out,by rw[<-HM.out],by rw[<-HM.out];exact qfx,fun r hr=>lu.out r (by simp[hr])⟩
       all_goals (have:=yh st' r;omega)
      ·obtain⟨x,F',hxf⟩:∃x F',r.f=x :: F':=by
        cases hf:r.f with
        | nil=>rw[hf]at hrf;exact absurd rfl hrf
        | cons x F'=>exact⟨x,F',rfl⟩
       obtain⟨y,G',hyg⟩:∃y G',r.g=y :: G':=by
        cases hf:r.g with
        | nil=>rw[hf]at hrl;rw[hrl]at hrf;exact absurd rfl hrf
        | cons x F'=>exact⟨x,F',rfl⟩
       rw[hxf]at hra hcell0 hrl;rw[hyg]at hrg hcell1 hrl;obtain⟨b,o,A1,c1,x',ha,hx',hfx⟩:=hra.get (k:=0) (by simp);obtain⟨b',o',A2,c2,y',ha',hy',hfy⟩:=hrg.get (k:=0) (by simp);obtain rfl:x=x':=by have:=hx'.out;simpa using this
       obtain rfl:y=y':=by have:=hy'.out;simpa using this
       rw[ha]at hra hcell0;rw[ha']at hrg hcell1;rw[Nat.zero_mul,Nat.add_zero]at hfx hfy;simp only[List.length_cons]at hcell0 hcell1 hrl;have hn1:F'.length+1<=r.c:=hra.len.2.1;have hn2:G'.length+1<=r.c':=hrg.len.2.1;have hx1:((F'.length:Int)+1==0)=false:=by rw[beq_eq_false_iff_ne];omega
       have hf0:(0:Int)<(F'.length:Int)+1:=by omega
       have hg0:(0:Int)<(G'.length:Int)+1:=by omega
       have HRT:=hid hra.tail;have HRT':=hid hrg.tail;have Zj:=hid hfx;have HFY:=hid hfy;have ny:=hid hrl
       have TT:=hid (show f.cmp g=nz (x.cmp y) (Ed (st' ++ [⟨F',tl b o r.c,r.c-1,G',tl b' o' r.c',r.c'-1⟩]))by
        rw[HCT.out,xO,xO,hxf,hyg];show nz (nz (x.cmp y) (gG F' G')) _=_
        rw[o7])
       have Ua:=hid (show mT (st' ++ [⟨F',tl b o r.c,r.c-1,G',tl b' o' r.c',r.c'-1⟩])+2*x.size=mT (st' ++ [r])by
        rw[yh,yh,hxf]
        simp only[sizes];omega)
       have hbv:=hfx.lt;have hbv':=hfy.lt;clear hrf hxf hyg hra hrg ha ha' hx' hy' hfx hfy hrl;go_wp2_with fail
       go_quiet (fail)
       go_wp2_with fail
       obtain⟨V1,hV1,qax⟩:∃V1,V1=wr.drewN nq/\aV wr V1:=⟨_,rfl,nq,rfl⟩;rw[<-hV1];have e0:V1.cell? ⟨tb,m*2,none⟩=some (.slice (some ⟨b,o,none⟩) (F'.length+1) r.c):=by rw[hV1];exact hcell0
       have e1:V1.cell? ⟨tb,m*2+1,none⟩=some (.slice (some ⟨b',o',none⟩) (G'.length+1) r.c'):=by rw[hV1];exact hcell1
       have e2:V1.frozen? ⟨tb,m*2,none⟩=false:=by rw[hV1];exact hfr0
       have e3:V1.frozen? ⟨tb,m*2+1,none⟩=false:=by rw[hV1];exact X8
       have e4:tb<V1.heap.size:=by rw[hV1];exact htl
       have qcr:=hid (HST.out.agree (w':=V1) (by rw[hV1];rfl) (by rw[hV1];exact Nat.le_refl _));have HB1:=hid (dG.out.trans (gZ.mV qax));clear hV1 qax hcell0 hcell1 hfr0 X8 htl HST
       go_region_law (fail)
       all_goals
        (try simp only[Exit.then,Act.put,List.getElem_toArray,List.getElem_cons_succ,List.getElem_cons_zero,List.setIfInBounds_toArray,List.set_cons_zero,List.set_cons_succ]);refine yM fun W6 Tt=>?_
        have qfw:Dn W6 (w.heap.size+2) 2 (.slice (some ⟨tb,0,none⟩) (m+1) cap) (m+1) (iK (st' ++ [⟨F',tl b o r.c,r.c-1,G',tl b' o' r.c',r.c'-1⟩])) tb cap:=by
         rw[Tt]
         first
          | exact(by
            have h1:=(qcr.out.set (m*2) (.slice (tl b o r.c) F'.length (r.c-1)) (by omega)).set (m*2+1) (.slice (tl b' o' r.c') G'.length (r.c'-1)) (by omega);rw[Ib st' r ⟨F',tl b o r.c,r.c-1,G',tl b' o' r.c',r.c'-1⟩ HM.out]at h1
            exact h1.agree rfl (Nat.le_refl _))
          | exact(by
            have h1:=(qcr.out.set (m*2+1) (.slice (tl b' o' r.c') G'.length (r.c'-1)) (by omega)).set (m*2) (.slice (tl b o r.c) F'.length (r.c-1)) (by omega);rw[YP st' r ⟨F',tl b o r.c,r.c-1,G',tl b' o' r.c',r.c'-1⟩ HM.out]at h1
            exact h1.agree rfl (Nat.le_refl _))
        have hge:=qcr.out.ge
        have hb6:gZ w W6:=by
         rw[Tt];exact((HB1.out.set _ (show w.heap.size<=tb by omega) _).set _ (show w.heap.size<=tb by omega) _).drewN 1
        have qeJ:=hid qfw;have Bl:=hid hb6;have Zz:=hid (Zj.out.keep (Keeps.of_below hb6.below fun _ h=>h.1));have ZA:=hid (HFY.out.keep (Keeps.of_below hb6.below fun _ h=>h.1))
        have qcf:=hid (show∀q,q∈st' ++ [⟨F',tl b o r.c,r.c-1,G',tl b' o' r.c',r.c'-1⟩]->YQ w (Iw w k1) (Iw w k2) q from fun q hq=>by
         rcases List.mem_append.1 hq with hq|hq
         ·exact lu.out q (by simp[hq])
         ·obtain rfl:=List.mem_singleton.1 hq
          exact⟨by have:=ny.out;simpa using this,HRT.out,HRT'.out⟩)
        clear Tt qfw hb6 hge e0 e1 e2 e3 e4
        by_cases hpe:b=b'/\o=o'
        ·obtain⟨rfl,rfl⟩:=hpe
         obtain rfl:=dR.uniq Zz.out ZA.out;have HCT3:=hid (show f.cmp g=Ed (st' ++ [⟨F',tl b o r.c,r.c-1,G',tl b o r.c',r.c'-1⟩])by rw[TT.out,tu,dJ]);have heq:=fun W':World=>tC (w:=W') (b:=b) (o:=o);go_wp2_with fail
         go_roundg (mT (st' ++ [⟨F',tl b o r.c,r.c-1,G',tl b o r.c',r.c'-1⟩]))
         case rel=>exact⟨_,tb,cap,rfl,by have:=Ua.out;have:=HMT.out;omega,HCT3,Bl.out,by simp[HM.out],by simp only[List.length_append,List.length_singleton];rw[<-HM.out];exact qeJ.out,qcf.out⟩
         all_goals (have:=Ua.out;have:=Fm.size_eq x;omega)
        ·have heq:=Ad Zz.out.c0 ZA.out.c0 (by
          rcases(Bool.or_eq_true _ _).mp sN.out with hc|hc
          ·exact .inl ((Zj.out.dom.2 hc).of_eq (Bl.out.below.block _ Zj.out.dom.1))
          ·exact .inr ((HFY.out.dom.2 hc).of_eq (Bl.out.below.block _ HFY.out.dom.1))) hpe
         have Zw:=hid (zZ x y b o b' o' _ _ _ _ W6 Zz.out ZA.out);go_upto_region 13 with(fail)
         by_cases hd:bZ x y=0
         ·rw[hd]at Zw
          have HD:=hid hd;have hxl:=gQ hd;clear hd heq;go_upto_region 16 with(first|(go_at_call 54;refine Zw.out.mono ?_;rintro e W7 ⟨rfl,hdv⟩))
          have vX:=hid (Bl.out.trans (gZ.mV hdv));have qc7:=Zz.out.keep (hdv.keeps);have qc8:=ZA.out.keep (hdv.keeps);have hx4:=qc7.c4;have hx4l:=qc7.lt;have hy4:=qc8.c4;have hy4l:=qc8.lt;have PW:=hid (qeJ.out.agree (w':=W7) (by obtain⟨n,rfl⟩:=hdv;rfl) (by obtain⟨n,rfl⟩:=hdv;exact Nat.le_refl _));have qcw:=hid (show w.heap.size+2<=W7.heap.size from by have:=PW.out.ge;have:=PW.out.lt;omega);clear qc7 qc8 hdv Zw
          by_cases hxa:x.args.length=0
          ·have hxa':¬(0:Int)<(x.args.length:Int):=by omega
           have qbZ:=hid (show f.cmp g=Ed (st' ++ [⟨F',tl b o r.c,r.c-1,G',tl b' o' r.c',r.c'-1⟩])by
            rw[TT.out,cmp_eq,HD.out,dJ,List.eq_nil_of_length_eq_zero hxa];rfl)
           clear hxa hxl;go_wp2_with fail
           go_roundg (mT (st' ++ [⟨F',tl b o r.c,r.c-1,G',tl b' o' r.c',r.c'-1⟩]))
           case rel=>exact⟨_,tb,cap,rfl,by have:=Ua.out;have:=HMT.out;omega,qbZ,vX.out,by simp[HM.out],by simp only[List.length_append,List.length_singleton];rw[<-HM.out];exact PW.out,qcf.out⟩
           all_goals (have:=Ua.out;have:=Fm.size_eq x;omega)
          ·have hxa':(0:Int)<(x.args.length:Int):=by omega
           have HXL:=hid hxl;clear hxa hxl;go_upto_region 17 with(fail)
           go_region_law
            ((refine vO _ (by rfl) _ _ 86 (by rfl) (w.heap.size+2) 84 i0 _ 2 48 Tryz.underlying86 hti hz0 hz1 hz2 rfl (by omega) (.slice (some ⟨tb,0,none⟩) (m+1) cap) (m+1) (iK (st' ++ [⟨F',tl b o r.c,r.c-1,G',tl b' o' r.c',r.c'-1⟩])) tb cap (by rfl) (by first|exact PW.out.alloc _|exact PW.out.Uk _) _ (some ⟨W7.heap.size,0,none⟩) 1 1 _ (by omega) (by rfl) (Rd.fresh (D:=fun _=>True) rfl trivial rfl (by omega)) (by simp[Value.oneCell']) (by omega) (dI (by omega)) (by have:=qcw.out;simp;omega) ?_;intro tb5 c5 w5 hst5 hg5 Eh X6))
           all_goals
            have hsz5:=hg5.size
            have FT:Below w.heap.size w w5:=by
             refine Below.grown (vX.out.below.trans (Below.mono (B:=W7.heap.size) (by go_grown) vX.out.below.size)) hg5 (by simp;have:=qcw.out;omega) (fun k hk=>by injection hk with hk;subst hk;have:=PW.out.ge;omega)
            have hb5:gZ w w5:=⟨FT,Nat.le_trans vX.out.drawn (Nat.le_trans (by simp) X6)⟩;have ZU:=hid hst5;have Io:=hid hb5;clear hst5 hg5 Eh X6 FT hb5 hsz5 hx4 hx4l hy4 hy4l PW vX qcw
            have qbZ:=hid (show f.cmp g=Ed ((st' ++ [⟨F',tl b o r.c,r.c-1,G',tl b' o' r.c',r.c'-1⟩]) ++ [⟨x.args,A1,c1,y.args,A2,c2⟩])by
             rw[TT.out,cmp_eq,HD.out,dJ];exact(xO (st' ++ [⟨F',tl b o r.c,r.c-1,G',tl b' o' r.c',r.c'-1⟩]) ⟨x.args,A1,c1,y.args,A2,c2⟩).symm)
            (try simp only[Exit.then,Act.put,List.getElem_toArray,List.getElem_cons_succ,List.getElem_cons_zero,List.setIfInBounds_toArray,List.set_cons_zero,List.set_cons_succ]);go_wp2_with fail
            go_roundg (mT ((st' ++ [⟨F',tl b o r.c,r.c-1,G',tl b' o' r.c',r.c'-1⟩]) ++ [⟨x.args,A1,c1,y.args,A2,c2⟩]))
            case rel =>
             refine⟨_,tb5,c5,rfl,by have:=Ua.out;have:=HMT.out;have:=Fm.size_eq x;have:=yh (st' ++ [⟨F',tl b o r.c,r.c-1,G',tl b' o' r.c',r.c'-1⟩]) ⟨x.args,A1,c1,y.args,A2,c2⟩;simp only at this;omega,qbZ,Io.out,by simp[HM.out],?_,fun q hq=>?_⟩
             ·have:=ZU.out
              rw[iV]at this⊢;simp only[List.length_append,List.length_singleton];rw[iV,<-HM.out];exact this
             ·rcases List.mem_append.1 hq with hq|hq
              ·exact qcf.out q hq
              ·obtain rfl:=List.mem_singleton.1 hq
               exact⟨HXL.out,Zj.out.args,HFY.out.args⟩
            all_goals (have:=Ua.out;have:=Fm.size_eq x;have:=yh (st' ++ [⟨F',tl b o r.c,r.c-1,G',tl b' o' r.c',r.c'-1⟩]) ⟨x.args,A1,c1,y.args,A2,c2⟩;simp only at this;omega)
         ·have HR:=hid (show f.cmp g=bZ x y by
           rw[TT.out,cmp_eq,Gh hd,Gh hd])
          have hne:(bZ x y != 0)=true:=lN hd;clear hd heq;go_wp2_with (first|(go_at_call 54;refine Zw.out.mono ?_;rintro e W7 ⟨rfl,hdv⟩))
          go_ret
          exact⟨bD HR.out.symm,Bl.out.trans (gZ.mV hdv)⟩
 ·have hne:(bZ f g != 0)=true:=lN hd
  have HR:=hid (show f.cmp g=bZ f g by rw[cmp_eq,Gh hd]);clear hd;go_wp2_with (first|(go_at_call 54;refine Zv.out.mono ?_;rintro e V ⟨rfl,hdv⟩;have hbv:=HB.out.trans (gZ.mV hdv);have hxv:dF V w.heap.size f A c:=dO.out.below (hdv.below _);obtain⟨x0,x1,x2,x3,x4,xl⟩:=hxv.cells))
  go_ret
  exact⟨bD HR.out.symm,hbv⟩
end Go.Proofs.YtdpbgcmfeajigaaGreatDoor
