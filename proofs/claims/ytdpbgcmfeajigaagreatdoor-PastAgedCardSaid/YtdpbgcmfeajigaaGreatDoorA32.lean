/-
  Parts of a proof: UY UZ QH QI.
-/
import Derived.Test.YtdpbgcmfeajigaaGreatDoorA31
set_option linter.unusedSimpArgs false
set_option linter.unusedVariables false
set_option maxHeartbeats 8000000
set_option maxRecDepth 100000
namespace Go.Proofs.YtdpbgcmfeajigaaGreatDoor
open Go.RowKit Go.Shelf
attribute [local go_sem] ak run_store_func Oper.semAt_some
theorem Wh (f:Fm):mg f=bf f:=(RQ f).symm
theorem F6 {D:Dom}(f:Fm)(v:Value)(w:World)(h:bI w D v f)(r:Bool)(hr:bf f=r):Calls Tryz.prog 11 #[v] w λ e w'=>e = .returned (.bool r)/\Below w.heap.size w w' :=
 ZU r (by rw[Wh,hr]) h
theorem Xd (f:Fm):pX f=jP f:=(Tv f).symm
theorem RI (f:Fm):fU f=(bf f&&jP f):=by
 rw[Bool.eq_iff_iff,Bool.and_eq_true]
 constructor
 ·intro h
  exact⟨sN h,(KH h).1⟩
 ·rintro⟨h1,h2⟩
  unfold jP at h2;rw[Bool.and_eq_true]at h2;unfold fU;rw[Bool.and_eq_true];refine⟨h2.1,?_⟩;unfold bf at h1;rw[Bool.and_eq_true]at h1;exact h1.2
theorem Lj {D:Dom}(f:Fm)(v:Value)(w:World)(h:bI w D v f) :
  Calls Tryz.prog 55 #[v] w λ e w'=>e = .returned (.bool (fU f))/\Below w.heap.size w w':=by
 obtain⟨A,c,rfl,ha⟩:=h;have HA:=hid ha.old;have HK:=hid (RI f);clear ha
 go_enter Tryz.func55,Tryz.ntmps55
 go_upto_region 1 with(fail)
 refine aC λ W hW=>?_;have HB:=hid (show Below w.heap.size w W by rw[hW];go_grown);have HE:=hid (show dH W w.heap.size f A c by show W.heap[w.heap.size]?=_;rw[hW];exact at_new _ _ _ rfl);clear hW;obtain⟨e0,e1,e2,e3,e4,e5⟩:=HE.out.cells;obtain⟨lo,hlo⟩:∃r,bf f=r:=⟨_,rfl⟩;have sW:=hid (F6 f _ W (bI.cells5 (HA.out.keep (Keeps.of_below HB.out λ _ h=>h))) lo hlo);rw[hlo]at HK;clear hlo;cases lo
 ·have zT:=hid (show fU f=false by rw[HK.out];rfl)
  go_wp2_with (go_at_call 11;(with_reducible refine sW.out.mono ?_);rintro e W1 ⟨rfl,hb1⟩;have HB1:=hid hb1;clear hb1)
  go_ret
  exact⟨by rw[zT.out];rfl,au HB.out HB1.out⟩
 ·have zT:=hid (show fU f=pX f by rw[HK.out,Xd];rfl)
  have HV:Hid (∀W',Below W.heap.size W W'->Calls Tryz.prog 98 #[.agg #[.int .i64 f.op,.string f.name,.int .i64 f.val,.int .i64 f.bound,.slice A f.args.length c]] W' λ e w'=>e = .returned (.bool (pX f))/\Below W.heap.size W w'):=hid λ W' hb=>by
   refine(Td f _ W' (bI.cells5 (HA.out.keep (Keeps.of_below (au HB.out hb) λ _ h=>h)))).mono ?_;rintro e w' ⟨rfl,hb'⟩;exact⟨rfl,au hb hb'⟩
  go_wp2_with (first
   | (go_at_call 11;(with_reducible refine sW.out.mono ?_);rintro e W1 ⟨rfl,hb1⟩;have HB1:=hid hb1;clear e0 e1 e2 e3 e4 e5;obtain⟨e0,e1,e2,e3,e4,e5⟩:=(HE.out.below hb1).cells;clear hb1)
   | (go_at_call 98;(with_reducible refine(HV.out _ HB1.out).mono ?_);rintro e W2 ⟨rfl,hb2⟩;have HB2:=hid hb2;clear hb2))
  go_ret
  exact⟨by rw[zT.out];rfl,au HB.out HB2.out⟩
theorem OJ {D:Dom}(f:Fm)(v:Value)(w:World)(h:bI w D v f) :
  Calls Tryz.prog 24 #[v] w λ e w'=>∃A c,e = .returned (.slice A (aZ f).length c)/\bZ w' aW (aZ f) A c/\Below w.heap.size w w':=by
 obtain⟨A,c,rfl,ha⟩:=h;have HA:=hid ha.old;clear ha
 go_enter Tryz.func24,Tryz.ntmps24
 go_upto_region 1 with(fail)
 refine aC λ W hW=>?_;have HB:=hid (show Below w.heap.size w W by rw[hW];go_grown);have HE:=hid (show dH W w.heap.size f A c by show W.heap[w.heap.size]?=_;rw[hW];exact at_new _ _ _ rfl);clear hW;obtain⟨e0,e1,e2,e3,e4,e5⟩:=HE.out.cells;obtain⟨lo,hlo⟩:∃r,bf f=r:=⟨_,rfl⟩;have sW:=hid (F6 f _ W (bI.cells5 (HA.out.keep (Keeps.of_below HB.out λ _ h=>h))) lo hlo);have LU:=hid hlo;clear hlo;cases lo
 ·have HZ:=hid (show aZ f = []by unfold aZ;rw[LU.out];rfl)
  go_wp2_with (go_at_call 11;(with_reducible refine sW.out.mono ?_);rintro e W1 ⟨rfl,hb1⟩;have HB1:=hid hb1;clear hb1)
  go_ret
  exact⟨none,0,by rw[HZ.out];rfl,by rw[HZ.out];exact bZ.nil _ _ _ (by omega),au HB.out HB1.out⟩
 ·have HZ:=hid (vk LU.out)
  have jI:=hid (show f.size<=400 from(iI LU.out).1);go_upto_region 3 with(go_at_call 11;(with_reducible refine sW.out.mono ?_);rintro e W1 ⟨rfl,hb1⟩;have HB1:=hid hb1;clear e0 e1 e2 e3 e4 e5;obtain⟨e0,e1,e2,e3,e4,e5⟩:=(HE.out.below hb1).cells;clear hb1)
  have aT:=hid (au HB.out HB1.out);have Xh:=hid (KF f [] none 0 0 [] W1.heap.size _ W1 rfl (wO.nil _ _) (bI.cells5 (((HA.out.keep (Keeps.of_below aT.out λ _ h=>h)).mono λ k hk hl=>hl))) (Nat.le_refl _) (by have:=jI.out;simp;omega));have HL4:=hid (show(gX [] (aY f)).length<=400 by have h1:=Rf [] f;have:=jI.out;simp at h1;omega);go_wp2_with (go_at_call 53;(with_reducible refine Xh.out.mono ?_);rintro e W2 ⟨A2,c2,sl2,rfl,hp2,hl2⟩;have HP2:=hid hp2;have HL2:=hid hl2;clear hp2 hl2)
  go_ret
  exact⟨A2,c2,by rw[HZ.out];rfl,by rw[HZ.out];exact HP2.out.rd (by have:=HL4.out;omega),au aT.out (HL2.out.below (λ k hk=>by cases hk) (Nat.le_refl _))⟩
def NH (l:List Sg)(f:Fm):Bool:=if f.op=3 then decide (fK l f.name<l.length)&&decide (0<=f.val)&&decide (f.val<(l.getD (fK l f.name) default).size)else true
mutual
def fitAll (l:List Sg):Fm->Bool
 | .mk o n v b L=>NH l (.mk o n v b L)&&qp l L
def qp (l:List Sg):List Fm->Bool
 | []=>true
 | f :: L=>fitAll l f&&qp l L
end
theorem mM {l:List Sg}:∀{L:List Fm},qp l L=true ↔ ∀g,g∈L->fitAll l g=true
 | []=>by simp[qp]
 | f :: L=>by rw[qp,Bool.and_eq_true,mM];simp
theorem I5 (l:List Sg)(f:Fm):fitAll l f=(NH l f&&qp l f.args):=by cases f;simp only[fitAll,Fm.args]
def DI (l:List Sg)(f:Fm):Bool:=dN l&&fitAll l f
def qcb (l:List Sg)(f:Fm):Prop:=∀(D E:Dom) (AS:Option Addr) (cS n:Nat) (v:Value) (w:World),n=l.length->ng w E AS cS l->bI w D v f ->
 Calls Tryz.prog 56 #[.slice AS n cS,v] w λ e w'=>e = .returned (.bool (DI l f))/\Below w.heap.size w w'
theorem Vp (l:List Sg)(f:Fm)(hz:f.size<=1000000):qcb l f:=by
 refine Fm.pW (P := λ f=>f.size<=1000000->qcb l f) ?_ f hz;clear hz f;intro f ih hz D E AS cS n v w hn hG hF;obtain⟨A,c,rfl,ha⟩:=hF;have HIH:=hid λ g (hg:g∈f.args)=>ih g hg (by have:=gq hg;rw[Fm.size_eq]at hz;omega);have HG:=hid hG;have HN:=hid hn;have HA:=hid ha.old;have hnl:n<=140737488355328:=by rw[hn];exact hG.len.1
 obtain⟨N,hNN⟩:∃N,N=f.args.length:=⟨_,rfl⟩;have wo:=hid hNN;have hNb:N<=1000000:=by have:=ji f.args;rw[hNN];rw[Fm.size_eq]at hz;omega
 have Qv:=hid (show DI l f=(dN l&&(NH l f&&qp l f.args))by unfold DI;rw[I5]);have HFG:=hid λ g=>(show DI l g=(dN l&&fitAll l g)from rfl);obtain⟨r,hr⟩:∃r,DI l f=r:=⟨_,rfl⟩;rw[hr]at Qv⊢;clear ih hG hn ha hz hNN hr
 go_enter Tryz.func56,Tryz.ntmps56
 go_upto_region 1 with(fail)
 refine aC λ W hW=>?_;have HB:=hid (show Below w.heap.size w W by rw[hW];go_grown);have HE:=hid (show dH W w.heap.size f A c by show W.heap[w.heap.size]?=_;rw[hW];exact at_new _ _ _ rfl);clear hW;obtain⟨e0,e1,e2,e3,e4,e5⟩:=HE.out.cells;rw[<-wo.out]at e4;have PE:=hid (D6 l AS cS n W HN.out (HG.out.any HB.out));obtain⟨va,hva⟩:∃r,dN l=r:=⟨_,rfl⟩;have HV:=hid hva;rw[hva]at PE Qv;clear hva;cases va
 ·have HR:=hid (show r=false by rw[Qv.out];rfl)
  go_wp2_with (go_at_call 23;(with_reducible refine PE.out.mono ?_);rintro e W1 ⟨rfl,hb1⟩;have HB1:=hid hb1;clear hb1)
  go_ret
  exact⟨by rw[HR.out];rfl,au HB.out HB1.out⟩
 ·go_upto_region 3 with(go_at_call 23;(with_reducible refine PE.out.mono ?_);rintro e W1 ⟨rfl,hb1⟩;have HB1:=hid hb1;clear hb1 e0 e1 e2 e3 e4 e5)
  have aT:=hid (au HB.out HB1.out);have kG:=hid (HE.out.below HB1.out);obtain⟨e0,e1,e2,e3,e4,e5⟩:=kG.out.cells;rw[<-wo.out]at e4;have HE2:=hid e2
  -- the loop over the arguments
  have key:∀(U:World),Below W1.heap.size W1 U->Hid (dH U w.heap.size f A c) := λ U hb=>hid (kG.out.below hb)
  by_cases e3':f.op=3
  ·have d1:(f.op==3)=true:=by rw[e3'];rfl
   have oI:=hid (Gt l f.name AS cS n W1 HN.out (HG.out.any aT.out))
   by_cases hfn:fK l f.name<l.length
   ·have hz:iO l f.name=((fK l f.name:Nat):Int):=by unfold iO;rw[if_pos hfn]
    obtain⟨bg,og,s,rfl,Uk,HX,g0,g1,g2⟩:=(HG.out.any aT.out).get hfn;obtain⟨i,hi⟩:∃i,fK l f.name=i:=⟨_,rfl⟩;rw[hi]at hz hfn HX g0 g1 g2;have HFQ:=hid (show NH l f=(decide (0<=f.val)&&decide (f.val<s.size))by unfold NH;rw[if_pos e3',hi,HX.out,decide_eq_true hfn,Bool.true_and]);rw[hz]at oI;have hil:(i:Int)<(n:Int):=by rw[HN.out];omega
    have hi0:(0:Int)<=(i:Int):=by omega
    have hi1:¬(i:Int)<0:=by omega
    have di1:decide ((i:Int)<0)=false:=decide_eq_false hi1;have XL:=hid Uk;have HG2:=hid g2;clear e3' hfn hz hi HX;go_upto_region 5 with(go_at_call 71;(with_reducible refine oI.out.mono ?_);rintro e W2 ⟨rfl,hb2⟩;have HB2:=hid hb2;clear hb2 e0 e1 e2 e3 e4 e5)
    have Qs:=hid (kG.out.below HB2.out);obtain⟨e0,e1,e2,e3,e4,e5⟩:=Qs.out.cells;rw[<-wo.out]at e4;have g22:=(HB2.out.cell (p:=⟨bg,og+i*3+2,none⟩) Uk).trans HG2.out;have hlg2:=Nat.lt_of_lt_of_le Uk HB2.out.size
    by_cases hv0:f.val<0
    ·have dv:decide (f.val<0)=true:=decide_eq_true hv0
     have HR:=hid (show r=false by rw[Qv.out,HFQ.out,decide_eq_false (by omega)];simp)
     go_quiet (fail)
     go_wp2_with fail
     go_ret
     exact⟨by rw[HR.out];rfl,below_drewN (au aT.out HB2.out) _⟩
    ·have dv:decide (f.val<0)=false:=decide_eq_false hv0
     by_cases hv1:s.size<=f.val
     ·have dw:decide (s.size<=f.val)=true:=decide_eq_true hv1
      have HR:=hid (show r=false by rw[Qv.out,HFQ.out,decide_eq_false (show¬f.val<s.size by omega)];simp)
      go_quiet (fail)
      go_wp2_with fail
      go_ret
      exact⟨by rw[HR.out];rfl,below_drewN (au aT.out HB2.out) _⟩
     ·have dw:decide (s.size<=f.val)=false:=decide_eq_false hv1
      have HR:=hid (show r=qp l f.args by rw[Qv.out,HFQ.out,decide_eq_true (show 0<=f.val by omega),decide_eq_true (show f.val<s.size by omega)];rfl)
      go_quiet (fail)
      go_upto_region 7 with(fail)
      refine aC λ U hU=>?_;have Xf:=hid (show Below w.heap.size w U by rw[hU];exact below_drewN (au aT.out HB2.out) _);have HEU:=hid (show dH U w.heap.size f A c by rw[hU];exact Qs.out.below (below_drewN (Below.refl _ _) _));clear hU e0 e1 e2 e3 e4 e5 g22 hlg2 g0 g1 g2 dv dw;clear hv0 hv1 di1 hi1;go_wp2_with fail
      go_loopw [6] (λ r wr=>∃k:Nat,k<=N/\r = .int .i64 (k:Int)/\Below U.heap.size U wr/\(∀j,j<k->fitAll l (f.args.getD j default)=true)) (λ r _=>N-(intOf r).toNat)
      case atStart=>exact⟨0,Nat.zero_le _,rfl,by first|exact Below.refl _ _|go_grown,λ _ h=>absurd h (Nat.not_lt_zero _)⟩
      case round =>
       obtain⟨k,hk,rfl,hbl,hdn⟩:=hrel;have bH:=hid hbl;have Hu:=hid hdn;clear hbl hdn;obtain⟨e0,e1,e2,e3,e4,e5⟩:=(HEU.out.below bH.out).cells;rw[<-wo.out]at e4
       by_cases hlt:k<N
       ·have hii:(k:Int)<(N:Int):=by omega
        have hk0:(0:Int)<=(k:Int):=by omega
        have hlf:k<f.args.length:=by rw[<-wo.out];exact hlt
        have JZ:=hid (au Xf.out bH.out);obtain⟨b1,o1,A3,c3,g,rfl,Ho,hg⟩:=(HA.out.keep (Keeps.of_below JZ.out λ _ h=>h)).get hlf;have UJ:=hid (show g∈f.args by rw[<-Ho.out];exact dA hlf);have mZ:=hid Ho.out;have HC:=hid (HIH.out g UJ.out _ aW _ cS n _ wr HN.out (HG.out.any JZ.out) (bI.cells5 hg.args));obtain⟨q1,q2,p0,p1,p2,p3,p4,_⟩:=hg;obtain⟨rg,hrg⟩:∃r,fitAll l g=r:=⟨_,rfl⟩;have LW:=hid hrg;rw[HFG.out g,HV.out,hrg,Bool.true_and]at HC;have dX:=hid hlt;clear hrg Ho hlt hlf hk;cases rg
        ·have HR2:=hid (show r=false by
          rw[HR.out,Bool.eq_false_iff];intro h;have:=mM.1 h g UJ.out
          rw[LW.out]at this;cases this)
         go_wp2_with (go_at_call 56;(with_reducible refine HC.out.mono ?_);rintro e W9 ⟨rfl,ni⟩;have rJ:=hid ni;clear ni)
         go_ret
         exact⟨by rw[HR2.out];rfl,au JZ.out rJ.out⟩
        ·go_wp2_with (go_at_call 56;(with_reducible refine HC.out.mono ?_);rintro e W9 ⟨rfl,ni⟩;have rJ:=hid ni;clear ni)
         go_roundw
         case rel=>exact⟨k+1,by have:=dX.out;omega,by go_num,au bH.out rJ.out,λ j hj=>by
          by_cases hjk:j<k
          ·exact Hu.out j hjk
          ·obtain rfl:j=k:=by omega
           rw[mZ.out];exact LW.out⟩
         case measure=>have:=dX.out;simp[intOf];omega
       ·have hii:¬(k:Int)<(N:Int):=by omega
        have HR2:=hid (show r=true by
         rw[HR.out,mM];intro g hg;obtain⟨j,hj,rfl⟩:=List.getElem_of_mem hg;have:=Hu.out j (by have:=wo.out;omega)
         rwa [List.getD_eq_getElem?_getD,List.getElem?_eq_getElem hj,Option.getD_some]at this)
        go_wp2_with fail
        go_ret
        exact⟨by rw[HR2.out];rfl,au Xf.out bH.out⟩
   ·have hz:iO l f.name = -1:=by unfold iO;rw[if_neg hfn]
    have HR:=hid (show r=false by rw[Qv.out];unfold NH;rw[if_pos e3',decide_eq_false hfn];simp);rw[hz]at oI;clear e3' hfn hz;go_upto_region 5 with(go_at_call 71;(with_reducible refine oI.out.mono ?_);rintro e W2 ⟨rfl,hb2⟩;have HB2:=hid hb2;clear hb2 e0 e1 e2 e3 e4 e5)
    go_quiet (fail)
    go_wp2_with fail
    go_ret
    exact⟨by rw[HR.out];rfl,below_drewN (au aT.out HB2.out) _⟩
  ·have d1:(f.op==3)=false:=cu e3'
   have HR:=hid (show r=qp l f.args by rw[Qv.out];unfold NH;rw[if_neg e3'];rfl);clear e3';go_upto_region 7 with(fail)
   refine aC λ U hU=>?_;have Xf:=hid (show Below w.heap.size w U by rw[hU];first|exact aT.out|exact below_drewN aT.out _);have HEU:=hid (show dH U w.heap.size f A c by rw[hU];first|exact kG.out|exact kG.out.below (below_drewN (Below.refl _ _) _));clear hU e0 e1 e2 e3 e4 e5;go_wp2_with fail
   go_loopw [6] (λ r wr=>∃k:Nat,k<=N/\r = .int .i64 (k:Int)/\Below U.heap.size U wr/\(∀j,j<k->fitAll l (f.args.getD j default)=true)) (λ r _=>N-(intOf r).toNat)
   case atStart=>exact⟨0,Nat.zero_le _,rfl,by first|exact Below.refl _ _|go_grown,λ _ h=>absurd h (Nat.not_lt_zero _)⟩
   case round =>
    obtain⟨k,hk,rfl,hbl,hdn⟩:=hrel;have bH:=hid hbl;have Hu:=hid hdn;clear hbl hdn;obtain⟨e0,e1,e2,e3,e4,e5⟩:=(HEU.out.below bH.out).cells;rw[<-wo.out]at e4
    by_cases hlt:k<N
    ·have hii:(k:Int)<(N:Int):=by omega
     have hk0:(0:Int)<=(k:Int):=by omega
     have hlf:k<f.args.length:=by rw[<-wo.out];exact hlt
     have JZ:=hid (au Xf.out bH.out);obtain⟨b1,o1,A3,c3,g,rfl,Ho,hg⟩:=(HA.out.keep (Keeps.of_below JZ.out λ _ h=>h)).get hlf;have UJ:=hid (show g∈f.args by rw[<-Ho.out];exact dA hlf);have mZ:=hid Ho.out;have HC:=hid (HIH.out g UJ.out _ aW _ cS n _ wr HN.out (HG.out.any JZ.out) (bI.cells5 hg.args));obtain⟨q1,q2,p0,p1,p2,p3,p4,_⟩:=hg;obtain⟨rg,hrg⟩:∃r,fitAll l g=r:=⟨_,rfl⟩;have LW:=hid hrg;rw[HFG.out g,HV.out,hrg,Bool.true_and]at HC;have dX:=hid hlt;clear hrg Ho hlt hlf hk;cases rg
     ·have HR2:=hid (show r=false by
       rw[HR.out,Bool.eq_false_iff];intro h;have:=mM.1 h g UJ.out
       rw[LW.out]at this;cases this)
      go_wp2_with (go_at_call 56;(with_reducible refine HC.out.mono ?_);rintro e W9 ⟨rfl,ni⟩;have rJ:=hid ni;clear ni)
      go_ret
      exact⟨by rw[HR2.out];rfl,au JZ.out rJ.out⟩
     ·go_wp2_with (go_at_call 56;(with_reducible refine HC.out.mono ?_);rintro e W9 ⟨rfl,ni⟩;have rJ:=hid ni;clear ni)
      go_roundw
      case rel=>exact⟨k+1,by have:=dX.out;omega,by go_num,au bH.out rJ.out,λ j hj=>by
       by_cases hjk:j<k
       ·exact Hu.out j hjk
       ·obtain rfl:j=k:=by omega
        rw[mZ.out];exact LW.out⟩
      case measure=>have:=dX.out;simp[intOf];omega
    ·have hii:¬(k:Int)<(N:Int):=by omega
     have HR2:=hid (show r=true by
      rw[HR.out,mM];intro g hg;obtain⟨j,hj,rfl⟩:=List.getElem_of_mem hg;have:=Hu.out j (by have:=wo.out;omega)
      rwa [List.getD_eq_getElem?_getD,List.getElem?_eq_getElem hj,Option.getD_some]at this)
     go_wp2_with fail
     go_ret
     exact⟨by rw[HR2.out];rfl,au Xf.out bH.out⟩
end Go.Proofs.YtdpbgcmfeajigaaGreatDoor
namespace Go.Proofs.YtdpbgcmfeajigaaGreatDoor
open Go.RowKit Go.Shelf
attribute [local go_sem] ak run_store_func Oper.semAt_some
theorem D5 (x:Int)(w:World):Calls Tryz.prog 130 #[.int .i64 x] w λ e w'=>e = .returned (.bool (pV 64 x))/\w'=w:=by
 by_cases h:0<=x
 ·have HR:=hid (show pV 64 x=decide (x<64)by unfold pV;rw[decide_eq_true h];rfl)
  have d:decide (0<=x)=true:=decide_eq_true h
  go_enter Tryz.func130,Tryz.ntmps130
  go_wp2_with fail
  go_ret
  exact⟨by rw[HR.out];rfl,rfl⟩
 ·have HR:=hid (show pV 64 x=false by unfold pV;rw[decide_eq_false h];rfl)
  have d:decide (0<=x)=false:=decide_eq_false h
  go_enter Tryz.func130,Tryz.ntmps130
  go_wp2_with fail
  go_ret
  exact⟨by rw[HR.out];rfl,rfl⟩
theorem lY {l:List Int}{m:Int}:dO l m=true ↔ ∀j,j<l.length->pV m (l.getD j 0)=true:=by
 unfold dO;rw[List.all_eq_true]
 constructor
 ·intro h j hj
  exact h _ (by simp[List.getD,hj])
 ·intro h x hx
  obtain⟨i,hi,rfl⟩:=List.getElem_of_mem hx;have:=h i hi
  rwa [List.getD_eq_getElem?_getD,List.getElem?_eq_getElem hi,Option.getD_some]at this
theorem uS {l:List Int}{m:Int}{j:Nat}(hj:j<l.length)(h:pV m (l.getD j 0)=false):dO l m=false:=by
 rw[Bool.eq_false_iff];intro hb;have:=lY.1 hb j hj;rw[h]at this;cases this
theorem SX {D:Dom}(W:iV)(v:Value)(w:World)(h:yT w D v W):Calls Tryz.prog 57 #[v] w λ e w'=>e = .returned (.bool (decide (W.stem.length<=80)&&decide (W.loop.length<=80)))/\Below w.heap.size w w':=by
 obtain⟨As,cs,Al,cl,rfl,hs,hl⟩:=h;obtain⟨m,hm⟩:∃m,W.stem.length=m:=⟨_,rfl⟩;obtain⟨k,hk⟩:∃k,W.loop.length=k:=⟨_,rfl⟩;obtain⟨r,hr⟩:∃r,(decide (W.stem.length<=80)&&decide (W.loop.length<=80))=r:=⟨_,rfl⟩;rw[hr,hm,hk];rw[hm,hk]at hr;have HR0:=hid hr;clear hs hl hr
 by_cases h1:m<=80
 ·have HR:=hid (show r=decide ((k:Int)<=80)by rw[<-HR0.out,decide_eq_true h1,Bool.true_and];exact decide_eq_decide.2 (by omega))
  have d:decide ((m:Int)<=80)=true:=decide_eq_true (by omega);have d':(m:Int)<=80:=by omega
  clear hm hk h1
  go_enter Tryz.func57,Tryz.ntmps57
  go_upto_region 1 with(fail)
  refine aC λ U hU=>?_;have HB:=hid (show Below w.heap.size w U by rw[hU];go_grown);have HE:=hid (show U.heap[w.heap.size]?=some (.cells #[.slice As m cs,.slice Al k cl] 37 (0,0))by rw[hU];exact at_new _ _ _ rfl);clear hU;have s0:=aj HE.out (i:=0) rfl;have s1:=aj HE.out (i:=1) rfl;have s2:=lt_of_block HE.out;go_wp2_with fail
  go_ret
  exact⟨by rw[HR.out];rfl,HB.out⟩
 ·have HR:=hid (show r=false by rw[<-HR0.out,decide_eq_false h1];rfl)
  have d:decide ((m:Int)<=80)=false:=decide_eq_false (by omega);have d':¬(m:Int)<=80:=by omega
  clear hm hk h1
  go_enter Tryz.func57,Tryz.ntmps57
  go_upto_region 1 with(fail)
  refine aC λ U hU=>?_;have HB:=hid (show Below w.heap.size w U by rw[hU];go_grown);have HE:=hid (show U.heap[w.heap.size]?=some (.cells #[.slice As m cs,.slice Al k cl] 37 (0,0))by rw[hU];exact at_new _ _ _ rfl);clear hU;have s0:=aj HE.out (i:=0) rfl;have s1:=aj HE.out (i:=1) rfl;have s2:=lt_of_block HE.out;go_wp2_with fail
  go_ret
  exact⟨by rw[HR.out];rfl,HB.out⟩
theorem OI {D:Dom}(W:iV)(v:Value)(w:World)(h:yT w D v W):Calls Tryz.prog 99 #[v] w λ e w'=>e = .returned (.bool (dF W))/\Below w.heap.size w w':=by
 obtain⟨As,cs,Al,cl,rfl,hs,hl⟩:=h;have H0:=hid hs.old;have H1:=hid hl.old;obtain⟨r,hr⟩:∃r,dF W=r:=⟨_,rfl⟩;have HR0:=hid (show r=(decide (W.stem.length<=60)&&decide (1<=W.loop.length)&&decide (W.loop.length<=40)&&dO W.stem 64&&dO W.loop 64)from hr.symm);rw[hr];have hsl:=hs.len.1;have hll:=hl.len.1;clear hs hl hr
 by_cases h1:W.stem.length<=60
 ·by_cases h2:1<=W.loop.length
  ·by_cases h3:W.loop.length<=40
   ·have HR:=hid (show r=(dO W.stem 64&&dO W.loop 64)by rw[HR0.out,decide_eq_true h1,decide_eq_true h2,decide_eq_true h3];simp)
    have zS:=hid (show W.stem.length<=60/\W.loop.length<=40 from⟨h1,h3⟩);have d1:¬(60:Int)<(W.stem.length:Int):=by omega
    have d2:¬(W.loop.length:Int)<1:=by omega
    have d3:¬(40:Int)<(W.loop.length:Int):=by omega
    have e1:decide ((60:Int)<(W.stem.length:Int))=false:=decide_eq_false d1;have e2:decide ((W.loop.length:Int)<1)=false:=decide_eq_false d2;have e3:decide ((40:Int)<(W.loop.length:Int))=false:=decide_eq_false d3;clear h1 h2 h3
    go_enter Tryz.func99,Tryz.ntmps99
    go_upto_region 1 with(fail)
    refine aC λ U hU=>?_;have HB:=hid (show Below w.heap.size w U by rw[hU];go_grown);have HE:=hid (show gQ U w.heap.size W As cs Al cl by show U.heap[w.heap.size]?=_;rw[hU];exact at_new _ _ _ rfl);clear hU;obtain⟨s0,s1,s2⟩:=HE.out.cells;go_wp2_with fail
    clear s0 s1 s2 d1 d2 d3 e1 e2 e3;have HST:=hid (Below.refl U.heap.size U)
    go_loopw [3] (λ r wr=>∃k:Nat,k<=W.stem.length/\r = .int .i64 (k:Int)/\Below U.heap.size U wr/\(∀j,j<k->pV 64 (W.stem.getD j 0)=true)) (λ r _=>W.stem.length-(intOf r).toNat)
    case atStart=>exact⟨0,Nat.zero_le _,rfl,by first|exact Below.refl _ _|exact HST.out|go_grown,λ _ h=>absurd h (Nat.not_lt_zero _)⟩
    case round =>
     obtain⟨k,hk,rfl,hbl,hdn⟩:=hrel;have bH:=hid hbl;have Hu:=hid hdn;clear hbl hdn;obtain⟨s0,s1,s2⟩:=(HE.out.below bH.out).cells;have hNb:=zS.out
     by_cases hlt:k<W.stem.length
     ·have hii:(k:Int)<(W.stem.length:Int):=by omega
      have hk0:(0:Int)<=(k:Int):=by omega
      have JZ:=hid (au HB.out bH.out);obtain⟨b1,o1,x,rfl,q1,q2,HX,hc⟩:=(H0.out.keep (Keeps.of_below JZ.out λ _ h=>h)).get hlt;obtain⟨rx,hrx⟩:∃r,pV 64 x=r:=⟨_,rfl⟩;have HRX:=hid hrx;have MC:=hid (D5 x wr);rw[hrx]at MC;have mZ:=hid HX.out;have dX:=hid hlt;clear hrx HX hlt hk;cases rx
      ·have HR2:=hid (show r=false by rw[HR.out,uS dX.out (by rw[mZ.out];exact HRX.out)];simp)
       go_wp2_with (go_at_call 130;(with_reducible refine MC.out.mono ?_);rintro e W9 ⟨rfl,Az⟩;have HW9:=hid Az;clear Az)
       go_ret
       exact⟨by rw[HR2.out];rfl,by rw[HW9.out];exact JZ.out⟩
      ·go_wp2_with (go_at_call 130;(with_reducible refine MC.out.mono ?_);rintro e W9 ⟨rfl,Az⟩;have HW9:=hid Az;clear Az)
       go_roundw
       case rel=>exact⟨k+1,by have:=dX.out;omega,by go_num,by rw[HW9.out];exact bH.out,λ j hj=>by
        by_cases hjk:j<k
        ·exact Hu.out j hjk
        ·obtain rfl:j=k:=by omega
         rw[mZ.out];exact HRX.out⟩
       case measure=>have:=dX.out;simp[intOf];omega
     ·have hii:¬(k:Int)<(W.stem.length:Int):=by omega
      have Xz:=hid (show dO W.stem 64=true from lY.2 λ j hj=>Hu.out j (by omega));clear hlt;go_wp2_with fail
      clear s0 s1 s2;have HST:=hid bH.out
      go_loopw [5] (λ r wr=>∃k:Nat,k<=W.loop.length/\r = .int .i64 (k:Int)/\Below U.heap.size U wr/\(∀j,j<k->pV 64 (W.loop.getD j 0)=true)) (λ r _=>W.loop.length-(intOf r).toNat)
      case atStart=>exact⟨0,Nat.zero_le _,rfl,by first|exact Below.refl _ _|exact HST.out|go_grown,λ _ h=>absurd h (Nat.not_lt_zero _)⟩
      case round =>
       obtain⟨k,hk,rfl,hbl,hdn⟩:=hrel;have bH:=hid hbl;have Hu:=hid hdn;clear hbl hdn;obtain⟨s0,s1,s2⟩:=(HE.out.below bH.out).cells;have hNb:=zS.out
       by_cases hlt:k<W.loop.length
       ·have hii:(k:Int)<(W.loop.length:Int):=by omega
        have hk0:(0:Int)<=(k:Int):=by omega
        have JZ:=hid (au HB.out bH.out);obtain⟨b1,o1,x,rfl,q1,q2,HX,hc⟩:=(H1.out.keep (Keeps.of_below JZ.out λ _ h=>h)).get hlt;obtain⟨rx,hrx⟩:∃r,pV 64 x=r:=⟨_,rfl⟩;have HRX:=hid hrx;have MC:=hid (D5 x wr);rw[hrx]at MC;have mZ:=hid HX.out;have dX:=hid hlt;clear hrx HX hlt hk;cases rx
        ·have HR2:=hid (show r=false by rw[HR.out,uS dX.out (by rw[mZ.out];exact HRX.out)];simp)
         go_wp2_with (go_at_call 130;(with_reducible refine MC.out.mono ?_);rintro e W9 ⟨rfl,Az⟩;have HW9:=hid Az;clear Az)
         go_ret
         exact⟨by rw[HR2.out];rfl,by rw[HW9.out];exact JZ.out⟩
        ·go_wp2_with (go_at_call 130;(with_reducible refine MC.out.mono ?_);rintro e W9 ⟨rfl,Az⟩;have HW9:=hid Az;clear Az)
         go_roundw
         case rel=>exact⟨k+1,by have:=dX.out;omega,by go_num,by rw[HW9.out];exact bH.out,λ j hj=>by
          by_cases hjk:j<k
          ·exact Hu.out j hjk
          ·obtain rfl:j=k:=by omega
           rw[mZ.out];exact HRX.out⟩
         case measure=>have:=dX.out;simp[intOf];omega
       ·have hii:¬(k:Int)<(W.loop.length:Int):=by omega
        have XA:=hid (show dO W.loop 64=true from lY.2 λ j hj=>Hu.out j (by omega));clear hlt;go_wp2_with fail
        go_ret
        exact⟨by rw[show r=true by rw[HR.out,Xz.out,XA.out];rfl];rfl,au HB.out bH.out⟩
   ·have HR:=hid (show r=false by rw[HR0.out,decide_eq_false h3];simp)
    have d1:¬(60:Int)<(W.stem.length:Int):=by omega
    have e1:decide ((60:Int)<(W.stem.length:Int))=false:=decide_eq_false d1;have d2:¬(W.loop.length:Int)<1:=by omega
    have e2:decide ((W.loop.length:Int)<1)=false:=decide_eq_false d2;have d3:(40:Int)<(W.loop.length:Int):=by omega
    have e3:decide ((40:Int)<(W.loop.length:Int))=true:=decide_eq_true d3;clear h1 h2 h3
    go_enter Tryz.func99,Tryz.ntmps99
    go_upto_region 1 with(fail)
    refine aC λ U hU=>?_;have HB:=hid (show Below w.heap.size w U by rw[hU];go_grown);have HE:=hid (show gQ U w.heap.size W As cs Al cl by show U.heap[w.heap.size]?=_;rw[hU];exact at_new _ _ _ rfl);clear hU;obtain⟨s0,s1,s2⟩:=HE.out.cells;go_wp2_with fail
    go_ret
    exact⟨by rw[HR.out];rfl,HB.out⟩
  ·have HR:=hid (show r=false by rw[HR0.out,decide_eq_false h2];simp)
   have d1:¬(60:Int)<(W.stem.length:Int):=by omega
   have e1:decide ((60:Int)<(W.stem.length:Int))=false:=decide_eq_false d1;have d2:(W.loop.length:Int)<1:=by omega
   have e2:decide ((W.loop.length:Int)<1)=true:=decide_eq_true d2;clear h1 h2
   go_enter Tryz.func99,Tryz.ntmps99
   go_upto_region 1 with(fail)
   refine aC λ U hU=>?_;have HB:=hid (show Below w.heap.size w U by rw[hU];go_grown);have HE:=hid (show gQ U w.heap.size W As cs Al cl by show U.heap[w.heap.size]?=_;rw[hU];exact at_new _ _ _ rfl);clear hU;obtain⟨s0,s1,s2⟩:=HE.out.cells;go_wp2_with fail
   go_ret
   exact⟨by rw[HR.out];rfl,HB.out⟩
 ·have HR:=hid (show r=false by rw[HR0.out,decide_eq_false h1];simp)
  have d1:(60:Int)<(W.stem.length:Int):=by omega
  have e1:decide ((60:Int)<(W.stem.length:Int))=true:=decide_eq_true d1;clear h1
  go_enter Tryz.func99,Tryz.ntmps99
  go_upto_region 1 with(fail)
  refine aC λ U hU=>?_;have HB:=hid (show Below w.heap.size w U by rw[hU];go_grown);have HE:=hid (show gQ U w.heap.size W As cs Al cl by show U.heap[w.heap.size]?=_;rw[hU];exact at_new _ _ _ rfl);clear hU;obtain⟨s0,s1,s2⟩:=HE.out.cells;go_wp2_with fail
  go_ret
  exact⟨by rw[HR.out];rfl,HB.out⟩
end Go.Proofs.YtdpbgcmfeajigaaGreatDoor
namespace Go.Proofs.YtdpbgcmfeajigaaGreatDoor
open Go.RowKit Go.Shelf
attribute [local go_sem] ak run_store_func Oper.semAt_some
theorem qb8 {W:iV}{m:Int}(h0:∀j,j<W.stem.length->W.stem.getD j 0<m)(h1:∀j,j<W.loop.length->W.loop.getD j 0<m):iH m W=dF W:=by
 unfold iH;cases hf:dF W
 ·rfl
 ·have hf':=hf
  unfold dF at hf';simp only[Bool.and_eq_true,decide_eq_true_eq]at hf'
  have key:∀{l:List Int},dO l 64=true->(∀j,j<l.length->l.getD j 0<m)->dO l m=true := λ h h2=>lY.2 λ j hj=>by
   have h3:=lY.1 h j hj;unfold pV at h3⊢;rw[Bool.and_eq_true,decide_eq_true_eq,decide_eq_true_eq]at h3;rw[decide_eq_true h3.1,decide_eq_true (h2 j hj)];rfl
  rw[key hf'.1.2 h0,key hf'.2 h1];rfl
theorem Pm {W:iV}{m:Int}{j:Nat}(h:(j<W.stem.length/\m<=W.stem.getD j 0)\/(j<W.loop.length/\m<=W.loop.getD j 0)):iH m W=false:=by
 unfold iH
 rcases h with⟨hj,h⟩|⟨hj,h⟩
 ·rw[uS hj (by unfold pV;rw[decide_eq_false (show¬W.stem.getD j 0<m by omega)];simp)];simp
 ·rw[uS hj (by unfold pV;rw[decide_eq_false (show¬W.loop.getD j 0<m by omega)];simp)];simp
theorem OO {D:Dom}(W:iV)(m:Int)(v:Value)(w:World)(h:yT w D v W):Calls Tryz.prog 58 #[.int .i64 m,v] w λ e w'=>e = .returned (.bool (iH m W))/\Below w.heap.size w w':=by
 obtain⟨As,cs,Al,cl,rfl,hs,hl⟩:=h;have H0:=hid hs.old;have H1:=hid hl.old;obtain⟨r,hr⟩:∃r,iH m W=r:=⟨_,rfl⟩;have HR:=hid hr;rw[hr];have hsl:=hs.len.1;have hll:=hl.len.1;clear hs hl hr
 go_enter Tryz.func58,Tryz.ntmps58
 go_upto_region 1 with(fail)
 refine aC λ U hU=>?_;have HB:=hid (show Below w.heap.size w U by rw[hU];go_grown);have HE:=hid (show gQ U w.heap.size W As cs Al cl by show U.heap[w.heap.size]?=_;rw[hU];exact at_new _ _ _ rfl);clear hU;go_wp2_with fail
 have HST:=hid (Below.refl U.heap.size U)
 go_loopw [5] (λ r wr=>∃k:Nat,k<=W.stem.length/\r = .int .i64 (k:Int)/\Below U.heap.size U wr/\(∀j,j<k->W.stem.getD j 0<m)) (λ r _=>W.stem.length-(intOf r).toNat)
 case atStart=>exact⟨0,Nat.zero_le _,rfl,by first|exact Below.refl _ _|exact HST.out|go_grown,λ _ h=>absurd h (Nat.not_lt_zero _)⟩
 case round =>
  obtain⟨k,hk,rfl,hbl,hdn⟩:=hrel;have bH:=hid hbl;have qe3:=hid hdn;clear hbl hdn;obtain⟨s0,s1,s2⟩:=(HE.out.below bH.out).cells
  by_cases hlt:k<W.stem.length
  ·have hii:(k:Int)<(W.stem.length:Int):=by omega
   have hk0:(0:Int)<=(k:Int):=by omega
   have JZ:=hid (au HB.out bH.out);obtain⟨b1,o1,x,rfl,q1,q2,HX,hc⟩:=(H0.out.keep (Keeps.of_below JZ.out λ _ h=>h)).get hlt;have mZ:=hid HX.out;have dX:=hid hlt;clear HX hlt hk
   by_cases hx:m<=x
   ·have dx:decide (m<=x)=true:=decide_eq_true hx
    have HR2:=hid (show r=false by rw[<-HR.out];exact Pm (j:=k) (.inl ⟨dX.out,by rw[mZ.out];exact hx⟩));go_wp2_with fail
    go_ret
    exact⟨by rw[HR2.out];rfl,JZ.out⟩
   ·have dx:decide (m<=x)=false:=decide_eq_false hx
    have HXM:=hid (show x<m by omega);go_wp2_with fail
    go_roundw
    case rel=>exact⟨k+1,by have:=dX.out;omega,by go_num,bH.out,λ j hj=>by
     by_cases hjk:j<k
     ·exact qe3.out j hjk
     ·obtain rfl:j=k:=by omega
      rw[mZ.out];exact HXM.out⟩
    case measure=>have:=dX.out;simp[intOf];omega
  ·have hii:¬(k:Int)<(W.stem.length:Int):=by omega
   have Xz:=hid (λ j (hj:j<W.stem.length)=>qe3.out j (by omega));clear hlt;go_wp2_with fail
   clear s0 s1 s2;have HST:=hid bH.out
   go_loopw [6] (λ r wr=>∃k:Nat,k<=W.loop.length/\r = .int .i64 (k:Int)/\Below U.heap.size U wr/\(∀j,j<k->W.loop.getD j 0<m)) (λ r _=>W.loop.length-(intOf r).toNat)
   case atStart=>exact⟨0,Nat.zero_le _,rfl,by first|exact Below.refl _ _|exact HST.out|go_grown,λ _ h=>absurd h (Nat.not_lt_zero _)⟩
   case round =>
    obtain⟨k,hk,rfl,hbl,hdn⟩:=hrel;have bH:=hid hbl;have qe4:=hid hdn;clear hbl hdn;obtain⟨s0,s1,s2⟩:=(HE.out.below bH.out).cells
    by_cases hlt:k<W.loop.length
    ·have hii:(k:Int)<(W.loop.length:Int):=by omega
     have hk0:(0:Int)<=(k:Int):=by omega
     have JZ:=hid (au HB.out bH.out);obtain⟨b1,o1,x,rfl,q1,q2,HX,hc⟩:=(H1.out.keep (Keeps.of_below JZ.out λ _ h=>h)).get hlt;have mZ:=hid HX.out;have dX:=hid hlt;clear HX hlt hk
     by_cases hx:m<=x
     ·have dx:decide (m<=x)=true:=decide_eq_true hx
      have HR2:=hid (show r=false by rw[<-HR.out];exact Pm (j:=k) (.inr ⟨dX.out,by rw[mZ.out];exact hx⟩));go_wp2_with fail
      go_ret
      exact⟨by rw[HR2.out];rfl,JZ.out⟩
     ·have dx:decide (m<=x)=false:=decide_eq_false hx
      have HXM:=hid (show x<m by omega);go_wp2_with fail
      go_roundw
      case rel=>exact⟨k+1,by have:=dX.out;omega,by go_num,bH.out,λ j hj=>by
       by_cases hjk:j<k
       ·exact qe4.out j hjk
       ·obtain rfl:j=k:=by omega
        rw[mZ.out];exact HXM.out⟩
      case measure=>have:=dX.out;simp[intOf];omega
    ·have hii:¬(k:Int)<(W.loop.length:Int):=by omega
     have XA:=hid (λ j (hj:j<W.loop.length)=>qe4.out j (by omega));clear hlt;have J5:=hid (OI W (.agg #[.slice As W.stem.length cs,.slice Al W.loop.length cl]) wr ⟨As,cs,Al,cl,rfl,H0.out.any (au HB.out bH.out),H1.out.any (au HB.out bH.out)⟩);have HR2:=hid (show dF W=r by rw[<-HR.out];exact(qb8 Xz.out XA.out).symm);rw[HR2.out]at J5;go_wp2_with (go_at_call 99;(with_reducible refine J5.out.mono ?_);rintro e W9 ⟨rfl,ni⟩;have rJ:=hid ni;clear ni)
     go_ret
     exact⟨rfl,au (au HB.out bH.out) rJ.out⟩
def jB (l:List Sg)(b:Bool):Nat->Int
 | 0=>1
 | k+1=>if(l.getD k default).inp=b then jB l b k*(l.getD k default).size else jB l b k
theorem D8 (l:List Sg)(b:Bool)(k:Nat):jB l b (k+1)=if(l.getD k default).inp=b then jB l b k*(l.getD k default).size else jB l b k:=rfl
theorem D7 (l:List Sg):∀k,k<=l.length->jB l true k*jB l false k=mV (l.take k)
 | 0,_=>rfl
 | k+1,h=>by
  have ih:=D7 l k (by omega);rw[bP l default (by omega),qx,<-ih];show _=_*((l.getD k default).size*1);rw[Int.mul_one,D8,D8];cases(l.getD k default).inp
  ·rw[if_neg (by simp),if_pos rfl,Int.mul_assoc]
  ·rw[if_pos rfl,if_neg (by simp),Int.mul_assoc,Int.mul_assoc,Int.mul_comm (l.getD k default).size]
theorem y8 {l:List Sg}(h:dN l=true)(b:Bool):∀k,k<=l.length->1<=jB l b k/\jB l b k<=4 ^ k
 | 0,_=>by unfold jB;decide
 | k+1,hk=>by
  have ih:=y8 h b k (by omega);have ho:=pG ((gI h).2.2.2 k (by omega))
  have hp:(4:Int) ^ (k+1)=4 ^ k*4:=Int.pow_succ ..
  unfold jB
  split
  ·refine⟨?_,?_⟩
   ·have:=Int.mul_le_mul ih.1 (show(1:Int)<=(l.getD k default).size by omega) (by omega) (by omega)
    omega
   ·rw[hp]
    exact Int.mul_le_mul ih.2 ho.2.2 (by omega) (by omega)
  ·rw[hp];omega
theorem Ti {l:List Sg}(h:dN l=true)(b:Bool){k:Nat}(hk:k<=l.length):1<=jB l b k/\jB l b k<=4096:=by
 have h1:=y8 h b k hk;have h6:=(gI h).2.1;refine⟨h1.1,Int.le_trans h1.2 ?_⟩;have:k=0\/k=1\/k=2\/k=3\/k=4\/k=5\/k=6:=by omega
 rcases this with rfl|rfl|rfl|rfl|rfl|rfl|rfl <;> decide
def vX (l:List Sg)(b:Bool):Int:=if dN l then jB l b l.length else 0
theorem Ik (l:List Sg):vX l true*vX l false=dh l:=by
 unfold vX dh
 split
 ·rw[D7 l l.length (Nat.le_refl _),List.take_length]
 ·rfl
theorem Z9 {D:Dom}(l:List Sg)(b:Bool)(A:Option Addr)(n c:Nat)(w:World)(hn:n=l.length)(h:ng w D A c l) :
  Calls Tryz.prog 115 #[.slice A n c,.bool b] w λ e w'=>e = .returned (.int .i64 (vX l b))/\Below w.heap.size w w':=by
 have HG:=hid h.old;have HN:=hid hn;have PE:=hid (D6 l A c n w hn h);have hnl:n<=140737488355328:=by rw[hn];exact h.len.1
 obtain⟨va,hva⟩:∃r,dN l=r:=⟨_,rfl⟩;have HV:=hid hva;have HZ:=hid (show vX l b=if va then jB l b l.length else 0 by unfold vX;rw[hva]);rw[hva]at PE;obtain⟨z,hz⟩:∃z,vX l b=z:=⟨_,rfl⟩;rw[hz]at HZ⊢;clear h hn hva hz;cases va
 ·have HR:=hid (show z=0 by rw[HZ.out];rfl)
  go_enter Tryz.func115,Tryz.ntmps115
  go_wp2_with (go_at_call 23;(with_reducible refine PE.out.mono ?_);rintro e W1 ⟨rfl,hb1⟩;have HB1:=hid hb1;clear hb1)
  go_ret
  exact⟨by rw[HR.out];rfl,HB1.out⟩
 ·have HR:=hid (show z=jB l b l.length by rw[HZ.out];rfl)
  go_enter Tryz.func115,Tryz.ntmps115
  go_upto_region 3 with(go_at_call 23;(with_reducible refine PE.out.mono ?_);rintro e W1 ⟨rfl,hb1⟩;have HB1:=hid hb1;clear hb1)
  go_wp2_with fail
  go_loopw [5,6] (λ p r wr=>∃(k:Nat) (P:Int),k<=n/\p = .int .i64 P/\r = .int .i64 (k:Int)/\Hid (P=jB l b k)/\Below w.heap.size w wr) (λ _ r _=>n-(intOf r).toNat)
  case atStart=>exact⟨0,1,Nat.zero_le _,rfl,rfl,rfl,by first|exact HB1.out|go_grown⟩
  case round =>
   obtain⟨k,P,hk,rfl,rfl,HP,hbl⟩:=hrel;have bH:=hid hbl;clear hbl
   by_cases hlt:k<n
   ·have hii:(k:Int)<(n:Int):=by omega
    have hk0:(0:Int)<=(k:Int):=by omega
    have hlf:k<l.length:=by rw[<-HN.out];exact hlt
    obtain⟨bg,og,s,rfl,Uk,HX,g0,g1,g2⟩:=(HG.out.keep (Keeps.of_below bH.out λ _ h=>h)).get hlf;have J8:=hid (show jB l b (k+1)=if s.inp=b then P*s.size else P by rw[HP.out,<-HX.out];rfl);have hsb:=pG ((gI HV.out).2.2.2 k hlf);have hPb:=Ti HV.out b (k:=k) (by omega);rw[HX.out]at hsb;rw[<-HP.out]at hPb
    have hw:IntKind.i64.wrap (P*s.size)=P*s.size:=by
     refine IntWalk.i64_in _ ⟨?_,?_⟩
     ·have:=Int.mul_le_mul hPb.1 (show(1:Int)<=s.size by omega) (by omega) (by omega);omega
     ·have:=Int.mul_le_mul hPb.2 hsb.2.2 (by omega) (by omega);omega
    have dX:=hid hlt;obtain⟨sb,qgB⟩:∃x,s.inp=x:=⟨_,rfl⟩;rw[qgB]at g1 J8;obtain⟨PS,hPS⟩:∃x,P*s.size=x:=⟨_,rfl⟩;rw[hPS]at hw J8;have HPS:=hid hPS;clear hlt hlf hk HX hsb hPb g0 qgB
    by_cases hbb:sb=b
    ·have qdy:=hid (show jB l b (k+1)=PS by rw[J8.out,if_pos hbb])
     subst hbb;cases sb
     all_goals
      rw[<-hPS]at hw;clear hPS;go_wp2_with fail
      go_roundw
      case rel=>exact⟨k+1,PS,by have:=dX.out;omega,by first|rw[hw,HPS.out]|rw[HPS.out],by go_num,qdy.out.symm,bH.out⟩
      case measure=>have:=dX.out;simp[intOf];omega
    ·have qdy:=hid (show jB l b (k+1)=P by rw[J8.out,if_neg hbb])
     cases sb <;> cases b
     all_goals first
      | exact absurd rfl hbb
      | skip
     all_goals
      clear hbb hPS hw;go_wp2_with fail
      go_roundw
      case rel=>exact⟨k+1,P,by have:=dX.out;omega,rfl,by go_num,qdy.out.symm,bH.out⟩
      case measure=>have:=dX.out;simp[intOf];omega
   ·have hii:¬(k:Int)<(n:Int):=by omega
    have PD:=hid (show P=z by rw[HP.out,HR.out,<-HN.out];congr 1;omega);go_wp2_with fail
    go_ret
    exact⟨by rw[<-PD.out];rfl,bH.out⟩
theorem ZR (A:Option Addr)(n c:Nat)(w W:World)(p:Int)(hK:Calls Tryz.prog 115 #[.slice A n c,.bool true] W λ e w'=>e = .returned (.int .i64 p)/\Below w.heap.size w w') :
  Calls Tryz.prog 74 #[.slice A n c] W λ e w'=>e = .returned (.int .i64 p)/\Below w.heap.size w w':=by
 have HK:=hid hK;clear hK
 go_enter Tryz.func74,Tryz.ntmps74
 go_wp2_with (go_at_call 115;(with_reducible refine HK.out.mono ?_);rintro e W1 ⟨rfl,hb1⟩;have HB1:=hid hb1;clear hb1)
 go_ret
 exact⟨rfl,HB1.out⟩
theorem WQ (A:Option Addr)(n c:Nat)(w W:World)(p:Int)(hK:Calls Tryz.prog 115 #[.slice A n c,.bool false] W λ e w'=>e = .returned (.int .i64 p)/\Below w.heap.size w w') :
  Calls Tryz.prog 75 #[.slice A n c] W λ e w'=>e = .returned (.int .i64 p)/\Below w.heap.size w w':=by
 have HK:=hid hK;clear hK
 go_enter Tryz.func75,Tryz.ntmps75
 go_wp2_with (go_at_call 115;(with_reducible refine HK.out.mono ?_);rintro e W1 ⟨rfl,hb1⟩;have HB1:=hid hb1;clear hb1)
 go_ret
 exact⟨rfl,HB1.out⟩
theorem Ih {D:Dom}(l:List Sg)(A:Option Addr)(n c:Nat)(w:World)(hn:n=l.length)(h:ng w D A c l) :
  Calls Tryz.prog 26 #[.slice A n c] w λ e w'=>e = .returned (.int .i64 (dh l))/\Below w.heap.size w w':=by
 have HG:=hid h.old;have HN:=hid hn
 have key:∀(b:Bool) (W:World),Below w.heap.size w W->Calls Tryz.prog 115 #[.slice A n c,.bool b] W λ e w'=>e = .returned (.int .i64 (vX l b))/\Below w.heap.size w w' := λ b W hb=>by
  refine(Z9 l b A n c W HN.out (HG.out.keep (Keeps.of_below hb λ _ h=>h))).mono ?_;rintro e w' ⟨rfl,hb'⟩;exact⟨rfl,au hb hb'⟩
 have Pz:=hid λ (W:World) (hb:Below w.heap.size w W) (p:Int) (hp:vX l true=p)=>ZR A n c w W p (by rw[<-hp];exact key true W hb);have HOU:=hid λ (W:World) (hb:Below w.heap.size w W) (p:Int) (hp:vX l false=p)=>WQ A n c w W p (by rw[<-hp];exact key false W hb);obtain⟨p,hp⟩:∃p,vX l true=p:=⟨_,rfl⟩;obtain⟨q,hq⟩:∃q,vX l false=q:=⟨_,rfl⟩;have HPQ:=hid (show p*q=dh l by rw[<-hp,<-hq];exact Ik l)
 have hw:IntKind.i64.wrap (p*q)=p*q:=by
  rw[HPQ.out];refine IntWalk.i64_in _ ?_;unfold dh
  split
  ·rename_i hv
   have h1:=(gI hv).2.2.1;have h2:=(qG hv l.length (Nat.le_refl _)).lo;rw[List.take_length]at h2;omega
  ·omega
 have HP:=hid hp;have HQ:=hid hq;rw[<-HPQ.out];have HB0:=hid (Below.refl w.heap.size w);clear key h hn hp hq
 go_enter Tryz.func26,Tryz.ntmps26
 go_wp2_with (first
  | (go_at_call 74;(with_reducible refine(Pz.out _ HB0.out _ HP.out).mono ?_);rintro e W1 ⟨rfl,hb1⟩;have HB1:=hid hb1;clear hb1)
  | (go_at_call 75;(with_reducible refine(HOU.out _ HB1.out _ HQ.out).mono ?_);rintro e W2 ⟨rfl,hb2⟩;have HB2:=hid hb2;clear hb2))
 go_ret
 exact⟨by first|rfl|(rw[hw];rfl),HB2.out⟩
end Go.Proofs.YtdpbgcmfeajigaaGreatDoor
namespace Go.Proofs.YtdpbgcmfeajigaaGreatDoor
def sA:ByteArray:=⟨#[97]⟩
def sB:ByteArray:=⟨#[98]⟩
def PI (s:ByteArray):Fm := .mk 3 s 1 0 []
def eS (v:Int):Fm := .mk 16 ⟨#[]⟩ v 0 [PI sA,PI sB]
def eY (v u:Int):Fm := .mk 15 ⟨#[]⟩ v 0 [eS u]
def eF (v u:Int):Fm := .mk 6 ⟨#[]⟩ 0 0 [PI sA,eY v u]
def eT:Fm := .mk 15 ⟨#[]⟩ 1 0 [PI sA]
def eL:List Sg := [⟨sA,true,2⟩,⟨sB,false,2⟩]
def eW:iV:=⟨[],[1]⟩
theorem KC:bf (eF 0 0)=true:=by decide +kernel
theorem qbi:aZ (eF 0 0) = [eS 0,eY 0 0]:=by decide +kernel
theorem wR:lH [eS 0,eY 0 0]=true:=by decide +kernel
theorem qbc:lH [eT]=true:=by decide +kernel
theorem KD:dN eL=true:=by decide +kernel
theorem BX:dh eL=4:=by decide +kernel
theorem Uc:ZA eL [0,1]=2/\JL eL [0,1]=true:=by decide +kernel
theorem Ud:ZA eL [1,0]=1/\JL eL [1,0]=true:=by decide +kernel
theorem qbj:sS [eS 0,eY 0 0]=0:=by decide +kernel
theorem qbe:rW (kL eL 2) [eS 0,eY 0 0] 0=3:=by decide +kernel
theorem qbf:rW (kL eL 1) [eS 0,eY 0 0] 3=3:=by decide +kernel
theorem qbg:rW (kL eL 0) [eS 0,eY 0 0] 3=0:=by decide +kernel
theorem qbh:rW (kL eL 0) [eT] 1=0:=by decide +kernel
theorem qf4:qy [eS 0,eY 0 0] 3 (eF 0 0)=eF 1 1:=by decide +kernel
theorem qdR:fE (kL eL 0) (bG [eS 0,eY 0 0] 3) (eY 0 0)=true:=by decide +kernel
theorem qdS:fE (kL eL 0) (bG [eS 0,eY 0 0] 3) (eS 0)=false:=by decide +kernel
theorem qdT:fE (kL eL 1) (bG [eS 0,eY 0 0] 1) (eS 0)=true:=by decide +kernel
theorem qbb:pU eL (eF 0 0) eW 0=true:=by decide +kernel
theorem YB:iH 4 eW=true:=by decide +kernel
end Go.Proofs.YtdpbgcmfeajigaaGreatDoor
