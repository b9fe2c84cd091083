/-
  Parts of a proof: UY UZ QH QI.
-/
import Derived.Test.YtdpbgcmfeajigaaGreatDoorT31
set_option linter.unusedSimpArgs false
set_option linter.unusedVariables false
set_option maxHeartbeats 8000000
set_option maxRecDepth 100000
namespace Go.Proofs.YtdpbgcmfeajigaaGreatDoor
open Go.RowKit Go.Shelf
attribute [local go_sem] ak run_store_func Oper.semAt_some
theorem Ve (f:Fm):lI f=bG f:=(QX f).symm
theorem F8 {D:Dom}(f:Fm)(v:Value)(w:World)(h:bI w D v f)(r:Bool)(hr:bG f=r):Calls Tryz.prog 11 #[v] w fun e w'=>e = .returned (.bool r)/\Below w.heap.size w w' :=
 YT r (by rw[Ve,hr]) h
theorem VQ (f:Fm):pK f=jK f:=(RY f).symm
theorem QT (f:Fm):iI f=(bG f&&jK f):=by
 rw[Bool.eq_iff_iff,Bool.and_eq_true]
 constructor
 ·intro h
  exact⟨rX h,(Kz h).1⟩
 ·rintro⟨h1,h2⟩
  unfold jK at h2;rw[Bool.and_eq_true]at h2;unfold iI;rw[Bool.and_eq_true];refine⟨h2.1,?_⟩;unfold bG at h1;rw[Bool.and_eq_true]at h1;exact h1.2
theorem KX {D:Dom}(f:Fm)(v:Value)(w:World)(h:bI w D v f) :
  Calls Tryz.prog 55 #[v] w fun e w'=>e = .returned (.bool (iI f))/\Below w.heap.size w w':=by
 obtain⟨A,c,rfl,ha⟩:=h;have HA:=hid ha.old;have HK:=hid (QT f);clear ha
 go_enter Tryz.func55,Tryz.ntmps55
 go_upto_region 1 with(fail)
 refine aF fun W hW=>?_;have HB:=hid (show Below w.heap.size w W by rw[hW];go_grown);have HE:=hid (show dF W w.heap.size f A c by show W.heap[w.heap.size]?=_;rw[hW];exact at_new _ _ _ rfl);clear hW;obtain⟨e0,e1,e2,e3,e4,e5⟩:=HE.out.cells;obtain⟨lo,hlo⟩:∃r,bG f=r:=⟨_,rfl⟩;have sH:=hid (F8 f _ W (bI.cells5 (HA.out.keep (Keeps.of_below HB.out fun _ h=>h))) lo hlo);rw[hlo]at HK;clear hlo;cases lo
 ·have EN:=hid (show iI f=false by rw[HK.out];rfl)
  go_wp2_with (go_at_call 11;(with_reducible refine sH.out.mono ?_);rintro e W1 ⟨rfl,hb1⟩;have HB1:=hid hb1;clear hb1)
  go_ret
  exact⟨by rw[EN.out];rfl,au HB.out HB1.out⟩
 ·have EN:=hid (show iI f=pK f by rw[HK.out,VQ];rfl)
  have HV:Hid (∀W',Below W.heap.size W W'->Calls Tryz.prog 98 #[.agg #[.int .i64 f.op,.string f.name,.int .i64 f.val,.int .i64 f.bound,.slice A f.args.length c]] W' fun e w'=>e = .returned (.bool (pK f))/\Below W.heap.size W w'):=hid fun W' hb=>by
   refine(RN f _ W' (bI.cells5 (HA.out.keep (Keeps.of_below (au HB.out hb) fun _ h=>h)))).mono ?_;rintro e w' ⟨rfl,hb'⟩;exact⟨rfl,au hb hb'⟩
  go_wp2_with (first
   | (go_at_call 11;(with_reducible refine sH.out.mono ?_);rintro e W1 ⟨rfl,hb1⟩;have HB1:=hid hb1;clear e0 e1 e2 e3 e4 e5;obtain⟨e0,e1,e2,e3,e4,e5⟩:=(HE.out.below hb1).cells;clear hb1)
   | (go_at_call 98;(with_reducible refine(HV.out _ HB1.out).mono ?_);rintro e W2 ⟨rfl,hb2⟩;have HB2:=hid hb2;clear hb2))
  go_ret
  exact⟨by rw[EN.out];rfl,au HB.out HB2.out⟩
theorem Oc {D:Dom}(f:Fm)(v:Value)(w:World)(h:bI w D v f) :
  Calls Tryz.prog 24 #[v] w fun e w'=>∃A c,e = .returned (.slice A (dH f).length c)/\bV w' aZ (dH f) A c/\Below w.heap.size w w':=by
 obtain⟨A,c,rfl,ha⟩:=h;have HA:=hid ha.old;clear ha
 go_enter Tryz.func24,Tryz.ntmps24
 go_upto_region 1 with(fail)
 refine aF fun W hW=>?_;have HB:=hid (show Below w.heap.size w W by rw[hW];go_grown);have HE:=hid (show dF W w.heap.size f A c by show W.heap[w.heap.size]?=_;rw[hW];exact at_new _ _ _ rfl);clear hW;obtain⟨e0,e1,e2,e3,e4,e5⟩:=HE.out.cells;obtain⟨lo,hlo⟩:∃r,bG f=r:=⟨_,rfl⟩;have sH:=hid (F8 f _ W (bI.cells5 (HA.out.keep (Keeps.of_below HB.out fun _ h=>h))) lo hlo);have JV:=hid hlo;clear hlo;cases lo
 ·have HZ:=hid (show dH f = []by unfold dH;rw[JV.out];rfl)
  go_wp2_with (go_at_call 11;(with_reducible refine sH.out.mono ?_);rintro e W1 ⟨rfl,hb1⟩;have HB1:=hid hb1;clear hb1)
  go_ret
  exact⟨none,0,by rw[HZ.out];rfl,by rw[HZ.out];exact bV.nil _ _ _ (by omega),au HB.out HB1.out⟩
 ·have HZ:=hid (uU JV.out)
  have jE:=hid (show f.size<=400 from(iY JV.out).1);go_upto_region 3 with(go_at_call 11;(with_reducible refine sH.out.mono ?_);rintro e W1 ⟨rfl,hb1⟩;have HB1:=hid hb1;clear e0 e1 e2 e3 e4 e5;obtain⟨e0,e1,e2,e3,e4,e5⟩:=(HE.out.below hb1).cells;clear hb1)
  have aT:=hid (au HB.out HB1.out);have ZB:=hid (Kv f [] none 0 0 [] W1.heap.size _ W1 rfl (wF.nil _ _) (bI.cells5 (((HA.out.keep (Keeps.of_below aT.out fun _ h=>h)).mono fun k hk hl=>hl))) (Nat.le_refl _) (by have:=jE.out;simp;omega));have HL4:=hid (show(iy [] (aX f)).length<=400 by have h1:=Qx [] f;have:=jE.out;simp at h1;omega);go_wp2_with (go_at_call 53;(with_reducible refine ZB.out.mono ?_);rintro e W2 ⟨A2,c2,sl2,rfl,hp2,hl2⟩;have HP2:=hid hp2;have HL2:=hid hl2;clear hp2 hl2)
  go_ret
  exact⟨A2,c2,by rw[HZ.out];rfl,by rw[HZ.out];exact HP2.out.rd (by have:=HL4.out;omega),au aT.out (HL2.out.below (fun k hk=>by cases hk) (Nat.le_refl _))⟩
def MZ (l:List Sg)(f:Fm):Bool:=if f.op=3 then decide (fQ l f.name<l.length)&&decide (0<=f.val)&&decide (f.val<(l.getD (fQ l f.name) default).size)else true
mutual
def fitAll (l:List Sg):Fm->Bool
 | .mk o n v b L=>MZ l (.mk o n v b L)&&qj l L
def qj (l:List Sg):List Fm->Bool
 | []=>true
 | f :: L=>fitAll l f&&qj l L
end
theorem lS {l:List Sg}:∀{L:List Fm},qj l L=true ↔ ∀g,g∈L->fitAll l g=true
 | []=>by simp[qj]
 | f :: L=>by rw[qj,Bool.and_eq_true,lS];simp
theorem I4 (l:List Sg)(f:Fm):fitAll l f=(MZ l f&&qj l f.args):=by cases f;simp only[fitAll,Fm.args]
def Dz (l:List Sg)(f:Fm):Bool:=dL l&&fitAll l f
def qbc (l:List Sg)(f:Fm):Prop:=∀(D E:Dom) (AS:Option Addr) (cS n:Nat) (v:Value) (w:World),n=l.length->mG w E AS cS l->bI w D v f ->
 Calls Tryz.prog 56 #[.slice AS n cS,v] w fun e w'=>e = .returned (.bool (Dz l f))/\Below w.heap.size w w'
theorem UA (l:List Sg)(f:Fm)(hz:f.size<=1000000):qbc l f:=by
 refine Fm.tV (P:=fun f=>f.size<=1000000->qbc l f) ?_ f hz;clear hz f;intro f ih hz D E AS cS n v w hn hG hF;obtain⟨A,c,rfl,ha⟩:=hF;have HIH:=hid fun g (hg:g∈f.args)=>ih g hg (by have:=gB hg;rw[Fm.size_eq]at hz;omega);have HG:=hid hG;have HN:=hid hn;have HA:=hid ha.old;have hnl:n<=140737488355328:=by rw[hn];exact hG.len.1
 obtain⟨N,hNN⟩:∃N,N=f.args.length:=⟨_,rfl⟩;have uF:=hid hNN;have hNb:N<=1000000:=by have:=jg f.args;rw[hNN];rw[Fm.size_eq]at hz;omega
 have PK:=hid (show Dz l f=(dL l&&(MZ l f&&qj l f.args))by unfold Dz;rw[I4]);have HFG:=hid fun g=>(show Dz l g=(dL l&&fitAll l g)from rfl);obtain⟨r,hr⟩:∃r,Dz l f=r:=⟨_,rfl⟩;rw[hr]at PK⊢;clear ih hG hn ha hz hNN hr
 go_enter Tryz.func56,Tryz.ntmps56
 go_upto_region 1 with(fail)
 refine aF fun W hW=>?_;have HB:=hid (show Below w.heap.size w W by rw[hW];go_grown);have HE:=hid (show dF W w.heap.size f A c by show W.heap[w.heap.size]?=_;rw[hW];exact at_new _ _ _ rfl);clear hW;obtain⟨e0,e1,e2,e3,e4,e5⟩:=HE.out.cells;rw[<-uF.out]at e4;have OJ:=hid (DZ l AS cS n W HN.out (HG.out.any HB.out));obtain⟨va,hva⟩:∃r,dL l=r:=⟨_,rfl⟩;have HV:=hid hva;rw[hva]at OJ PK;clear hva;cases va
 ·have HR:=hid (show r=false by rw[PK.out];rfl)
  go_wp2_with (go_at_call 23;(with_reducible refine OJ.out.mono ?_);rintro e W1 ⟨rfl,hb1⟩;have HB1:=hid hb1;clear hb1)
  go_ret
  exact⟨by rw[HR.out];rfl,au HB.out HB1.out⟩
 ·go_upto_region 3 with(go_at_call 23;(with_reducible refine OJ.out.mono ?_);rintro e W1 ⟨rfl,hb1⟩;have HB1:=hid hb1;clear hb1 e0 e1 e2 e3 e4 e5)
  have aT:=hid (au HB.out HB1.out);have lq:=hid (HE.out.below HB1.out);obtain⟨e0,e1,e2,e3,e4,e5⟩:=lq.out.cells;rw[<-uF.out]at e4;have HE2:=hid e2
  -- the loop over the arguments
  have key:∀(U:World),Below W1.heap.size W1 U->Hid (dF U w.heap.size f A c):=fun U hb=>hid (lq.out.below hb)
  by_cases e3':f.op=3
  ·have d1:(f.op==3)=true:=by rw[e3'];rfl
   have lg:=hid (Gq l f.name AS cS n W1 HN.out (HG.out.any aT.out))
   by_cases hfn:fQ l f.name<l.length
   ·have hz:iQ l f.name=((fQ l f.name:Nat):Int):=by unfold iQ;rw[if_pos hfn]
    obtain⟨bg,og,s,rfl,TA,HX,g0,g1,g2⟩:=(HG.out.any aT.out).get hfn;obtain⟨i,hi⟩:∃i,fQ l f.name=i:=⟨_,rfl⟩;rw[hi]at hz hfn HX g0 g1 g2;have HFQ:=hid (show MZ l f=(decide (0<=f.val)&&decide (f.val<s.size))by unfold MZ;rw[if_pos e3',hi,HX.out,decide_eq_true hfn,Bool.true_and]);rw[hz]at lg;have hil:(i:Int)<(n:Int):=by rw[HN.out];omega
    have hi0:(0:Int)<=(i:Int):=by omega
    have hi1:¬(i:Int)<0:=by omega
    have di1:decide ((i:Int)<0)=false:=decide_eq_false hi1;have WM:=hid TA;have HG2:=hid g2;clear e3' hfn hz hi HX;go_upto_region 5 with(go_at_call 71;(with_reducible refine lg.out.mono ?_);rintro e W2 ⟨rfl,hb2⟩;have HB2:=hid hb2;clear hb2 e0 e1 e2 e3 e4 e5)
    have PG:=hid (lq.out.below HB2.out);obtain⟨e0,e1,e2,e3,e4,e5⟩:=PG.out.cells;rw[<-uF.out]at e4;have g22:=(HB2.out.cell (p:=⟨bg,og+i*3+2,none⟩) TA).trans HG2.out;have hlg2:=Nat.lt_of_lt_of_le TA HB2.out.size
    by_cases hv0:f.val<0
    ·have dv:decide (f.val<0)=true:=decide_eq_true hv0
     have HR:=hid (show r=false by rw[PK.out,HFQ.out,decide_eq_false (by omega)];simp)
     go_quiet (fail)
     go_wp2_with fail
     go_ret
     exact⟨by rw[HR.out];rfl,below_drewN (au aT.out HB2.out) _⟩
    ·have dv:decide (f.val<0)=false:=decide_eq_false hv0
     by_cases hv1:s.size<=f.val
     ·have dw:decide (s.size<=f.val)=true:=decide_eq_true hv1
      have HR:=hid (show r=false by rw[PK.out,HFQ.out,decide_eq_false (show¬f.val<s.size by omega)];simp)
      go_quiet (fail)
      go_wp2_with fail
      go_ret
      exact⟨by rw[HR.out];rfl,below_drewN (au aT.out HB2.out) _⟩
     ·have dw:decide (s.size<=f.val)=false:=decide_eq_false hv1
      have HR:=hid (show r=qj l f.args by rw[PK.out,HFQ.out,decide_eq_true (show 0<=f.val by omega),decide_eq_true (show f.val<s.size by omega)];rfl)
      go_quiet (fail)
      go_upto_region 7 with(fail)
      refine aF fun U hU=>?_;have HBU:=hid (show Below w.heap.size w U by rw[hU];exact below_drewN (au aT.out HB2.out) _);have HEU:=hid (show dF U w.heap.size f A c by rw[hU];exact PG.out.below (below_drewN (Below.refl _ _) _));clear hU e0 e1 e2 e3 e4 e5 g22 hlg2 g0 g1 g2 dv dw;clear hv0 hv1 di1 hi1;go_wp2_with fail
      go_loopw [6] (fun r wr=>∃k:Nat,k<=N/\r = .int .i64 (k:Int)/\Below U.heap.size U wr/\(∀j,j<k->fitAll l (f.args.getD j default)=true)) (fun r _=>N-(intOf r).toNat)
      case atStart=>exact⟨0,Nat.zero_le _,rfl,by first|exact Below.refl _ _|go_grown,fun _ h=>absurd h (Nat.not_lt_zero _)⟩
      case round =>
       obtain⟨k,hk,rfl,hbl,hdn⟩:=hrel;have bJ:=hid hbl;have Hg:=hid hdn;clear hbl hdn;obtain⟨e0,e1,e2,e3,e4,e5⟩:=(HEU.out.below bJ.out).cells;rw[<-uF.out]at e4
       by_cases hlt:k<N
       ·have hii:(k:Int)<(N:Int):=by omega
        have hk0:(0:Int)<=(k:Int):=by omega
        have hlf:k<f.args.length:=by rw[<-uF.out];exact hlt
        have JR:=hid (au HBU.out bJ.out);obtain⟨b1,o1,A3,c3,g,rfl,Iu,hg⟩:=(HA.out.keep (Keeps.of_below JR.out fun _ h=>h)).get hlf;have PL:=hid (show g∈f.args by rw[<-Iu.out];exact cO hlf);have kQ:=hid Iu.out;have HC:=hid (HIH.out g PL.out _ aZ _ cS n _ wr HN.out (HG.out.any JR.out) (bI.cells5 hg.args));obtain⟨q1,q2,p0,p1,p2,p3,p4,_⟩:=hg;obtain⟨rg,hrg⟩:∃r,fitAll l g=r:=⟨_,rfl⟩;have PV:=hid hrg;rw[HFG.out g,HV.out,hrg,Bool.true_and]at HC;have dY:=hid hlt;clear hrg Iu hlt hlf hk;cases rg
        ·have HR2:=hid (show r=false by
          rw[HR.out,Bool.eq_false_iff];intro h;have:=lS.1 h g PL.out
          rw[PV.out]at this;cases this)
         go_wp2_with (go_at_call 56;(with_reducible refine HC.out.mono ?_);rintro e W9 ⟨rfl,pU⟩;have oD:=hid pU;clear pU)
         go_ret
         exact⟨by rw[HR2.out];rfl,au JR.out oD.out⟩
        ·go_wp2_with (go_at_call 56;(with_reducible refine HC.out.mono ?_);rintro e W9 ⟨rfl,pU⟩;have oD:=hid pU;clear pU)
         go_roundw
         case rel=>exact⟨k+1,by have:=dY.out;omega,by go_num,au bJ.out oD.out,fun j hj=>by
          by_cases hjk:j<k
          ·exact Hg.out j hjk
          ·obtain rfl:j=k:=by omega
           rw[kQ.out];exact PV.out⟩
         case measure=>have:=dY.out;simp[intOf];omega
       ·have hii:¬(k:Int)<(N:Int):=by omega
        have HR2:=hid (show r=true by
         rw[HR.out,lS];intro g hg;obtain⟨j,hj,rfl⟩:=List.getElem_of_mem hg;have:=Hg.out j (by have:=uF.out;omega)
         rwa [List.getD_eq_getElem?_getD,List.getElem?_eq_getElem hj,Option.getD_some]at this)
        go_wp2_with fail
        go_ret
        exact⟨by rw[HR2.out];rfl,au HBU.out bJ.out⟩
   ·have hz:iQ l f.name = -1:=by unfold iQ;rw[if_neg hfn]
    have HR:=hid (show r=false by rw[PK.out];unfold MZ;rw[if_pos e3',decide_eq_false hfn];simp);rw[hz]at lg;clear e3' hfn hz;go_upto_region 5 with(go_at_call 71;(with_reducible refine lg.out.mono ?_);rintro e W2 ⟨rfl,hb2⟩;have HB2:=hid hb2;clear hb2 e0 e1 e2 e3 e4 e5)
    go_quiet (fail)
    go_wp2_with fail
    go_ret
    exact⟨by rw[HR.out];rfl,below_drewN (au aT.out HB2.out) _⟩
  ·have d1:(f.op==3)=false:=bW e3'
   have HR:=hid (show r=qj l f.args by rw[PK.out];unfold MZ;rw[if_neg e3'];rfl);clear e3';go_upto_region 7 with(fail)
   refine aF fun U hU=>?_;have HBU:=hid (show Below w.heap.size w U by rw[hU];first|exact aT.out|exact below_drewN aT.out _);have HEU:=hid (show dF U w.heap.size f A c by rw[hU];first|exact lq.out|exact lq.out.below (below_drewN (Below.refl _ _) _));clear hU e0 e1 e2 e3 e4 e5;go_wp2_with fail
   go_loopw [6] (fun r wr=>∃k:Nat,k<=N/\r = .int .i64 (k:Int)/\Below U.heap.size U wr/\(∀j,j<k->fitAll l (f.args.getD j default)=true)) (fun r _=>N-(intOf r).toNat)
   case atStart=>exact⟨0,Nat.zero_le _,rfl,by first|exact Below.refl _ _|go_grown,fun _ h=>absurd h (Nat.not_lt_zero _)⟩
   case round =>
    obtain⟨k,hk,rfl,hbl,hdn⟩:=hrel;have bJ:=hid hbl;have Hg:=hid hdn;clear hbl hdn;obtain⟨e0,e1,e2,e3,e4,e5⟩:=(HEU.out.below bJ.out).cells;rw[<-uF.out]at e4
    by_cases hlt:k<N
    ·have hii:(k:Int)<(N:Int):=by omega
     have hk0:(0:Int)<=(k:Int):=by omega
     have hlf:k<f.args.length:=by rw[<-uF.out];exact hlt
     have JR:=hid (au HBU.out bJ.out);obtain⟨b1,o1,A3,c3,g,rfl,Iu,hg⟩:=(HA.out.keep (Keeps.of_below JR.out fun _ h=>h)).get hlf;have PL:=hid (show g∈f.args by rw[<-Iu.out];exact cO hlf);have kQ:=hid Iu.out;have HC:=hid (HIH.out g PL.out _ aZ _ cS n _ wr HN.out (HG.out.any JR.out) (bI.cells5 hg.args));obtain⟨q1,q2,p0,p1,p2,p3,p4,_⟩:=hg;obtain⟨rg,hrg⟩:∃r,fitAll l g=r:=⟨_,rfl⟩;have PV:=hid hrg;rw[HFG.out g,HV.out,hrg,Bool.true_and]at HC;have dY:=hid hlt;clear hrg Iu hlt hlf hk;cases rg
     ·have HR2:=hid (show r=false by
       rw[HR.out,Bool.eq_false_iff];intro h;have:=lS.1 h g PL.out
       rw[PV.out]at this;cases this)
      go_wp2_with (go_at_call 56;(with_reducible refine HC.out.mono ?_);rintro e W9 ⟨rfl,pU⟩;have oD:=hid pU;clear pU)
      go_ret
      exact⟨by rw[HR2.out];rfl,au JR.out oD.out⟩
     ·go_wp2_with (go_at_call 56;(with_reducible refine HC.out.mono ?_);rintro e W9 ⟨rfl,pU⟩;have oD:=hid pU;clear pU)
      go_roundw
      case rel=>exact⟨k+1,by have:=dY.out;omega,by go_num,au bJ.out oD.out,fun j hj=>by
       by_cases hjk:j<k
       ·exact Hg.out j hjk
       ·obtain rfl:j=k:=by omega
        rw[kQ.out];exact PV.out⟩
      case measure=>have:=dY.out;simp[intOf];omega
    ·have hii:¬(k:Int)<(N:Int):=by omega
     have HR2:=hid (show r=true by
      rw[HR.out,lS];intro g hg;obtain⟨j,hj,rfl⟩:=List.getElem_of_mem hg;have:=Hg.out j (by have:=uF.out;omega)
      rwa [List.getD_eq_getElem?_getD,List.getElem?_eq_getElem hj,Option.getD_some]at this)
     go_wp2_with fail
     go_ret
     exact⟨by rw[HR2.out];rfl,au HBU.out bJ.out⟩
end Go.Proofs.YtdpbgcmfeajigaaGreatDoor
namespace Go.Proofs.YtdpbgcmfeajigaaGreatDoor
open Go.RowKit Go.Shelf
attribute [local go_sem] ak run_store_func Oper.semAt_some
theorem DY (x:Int)(w:World):Calls Tryz.prog 130 #[.int .i64 x] w fun e w'=>e = .returned (.bool (qo 64 x))/\w'=w:=by
 by_cases h:0<=x
 ·have HR:=hid (show qo 64 x=decide (x<64)by unfold qo;rw[decide_eq_true h];rfl)
  have d:decide (0<=x)=true:=decide_eq_true h
  go_enter Tryz.func130,Tryz.ntmps130
  go_wp2_with fail
  go_ret
  exact⟨by rw[HR.out];rfl,rfl⟩
 ·have HR:=hid (show qo 64 x=false by unfold qo;rw[decide_eq_false h];rfl)
  have d:decide (0<=x)=false:=decide_eq_false h
  go_enter Tryz.func130,Tryz.ntmps130
  go_wp2_with fail
  go_ret
  exact⟨by rw[HR.out];rfl,rfl⟩
theorem nK {l:List Int}{m:Int}:dW l m=true ↔ ∀j,j<l.length->qo m (l.getD j 0)=true:=by
 unfold dW;rw[List.all_eq_true]
 constructor
 ·intro h j hj
  exact h _ (by simp[List.getD,hj])
 ·intro h x hx
  obtain⟨i,hi,rfl⟩:=List.getElem_of_mem hx;have:=h i hi
  rwa [List.getD_eq_getElem?_getD,List.getElem?_eq_getElem hi,Option.getD_some]at this
theorem uK {l:List Int}{m:Int}{j:Nat}(hj:j<l.length)(h:qo m (l.getD j 0)=false):dW l m=false:=by
 rw[Bool.eq_false_iff];intro hb;have:=nK.1 hb j hj;rw[h]at this;cases this
theorem RG {D:Dom}(W:jy)(v:Value)(w:World)(h:EY w D v W):Calls Tryz.prog 57 #[v] w fun e w'=>e = .returned (.bool (decide (W.stem.length<=80)&&decide (W.loop.length<=80)))/\Below w.heap.size w w':=by
 obtain⟨As,cs,Al,cl,rfl,hs,hl⟩:=h;obtain⟨m,hm⟩:∃m,W.stem.length=m:=⟨_,rfl⟩;obtain⟨k,hk⟩:∃k,W.loop.length=k:=⟨_,rfl⟩;obtain⟨r,hr⟩:∃r,(decide (W.stem.length<=80)&&decide (W.loop.length<=80))=r:=⟨_,rfl⟩;rw[hr,hm,hk];rw[hm,hk]at hr;have HR0:=hid hr;clear hs hl hr
 by_cases h1:m<=80
 ·have HR:=hid (show r=decide ((k:Int)<=80)by rw[<-HR0.out,decide_eq_true h1,Bool.true_and];exact decide_eq_decide.2 (by omega))
  have d:decide ((m:Int)<=80)=true:=decide_eq_true (by omega);have d':(m:Int)<=80:=by omega
  clear hm hk h1
  go_enter Tryz.func57,Tryz.ntmps57
  go_upto_region 1 with(fail)
  refine aF fun U hU=>?_;have HB:=hid (show Below w.heap.size w U by rw[hU];go_grown);have HE:=hid (show U.heap[w.heap.size]?=some (.cells #[.slice As m cs,.slice Al k cl] 37 (0,0))by rw[hU];exact at_new _ _ _ rfl);clear hU;have s0:=aj HE.out (i:=0) rfl;have s1:=aj HE.out (i:=1) rfl;have s2:=lt_of_block HE.out;go_wp2_with fail
  go_ret
  exact⟨by rw[HR.out];rfl,HB.out⟩
 ·have HR:=hid (show r=false by rw[<-HR0.out,decide_eq_false h1];rfl)
  have d:decide ((m:Int)<=80)=false:=decide_eq_false (by omega);have d':¬(m:Int)<=80:=by omega
  clear hm hk h1
  go_enter Tryz.func57,Tryz.ntmps57
  go_upto_region 1 with(fail)
  refine aF fun U hU=>?_;have HB:=hid (show Below w.heap.size w U by rw[hU];go_grown);have HE:=hid (show U.heap[w.heap.size]?=some (.cells #[.slice As m cs,.slice Al k cl] 37 (0,0))by rw[hU];exact at_new _ _ _ rfl);clear hU;have s0:=aj HE.out (i:=0) rfl;have s1:=aj HE.out (i:=1) rfl;have s2:=lt_of_block HE.out;go_wp2_with fail
  go_ret
  exact⟨by rw[HR.out];rfl,HB.out⟩
theorem Ob {D:Dom}(W:jy)(v:Value)(w:World)(h:EY w D v W):Calls Tryz.prog 99 #[v] w fun e w'=>e = .returned (.bool (eX W))/\Below w.heap.size w w':=by
 obtain⟨As,cs,Al,cl,rfl,hs,hl⟩:=h;have H0:=hid hs.old;have H1:=hid hl.old;obtain⟨r,hr⟩:∃r,eX W=r:=⟨_,rfl⟩;have HR0:=hid (show r=(decide (W.stem.length<=60)&&decide (1<=W.loop.length)&&decide (W.loop.length<=40)&&dW W.stem 64&&dW W.loop 64)from hr.symm);rw[hr];have hsl:=hs.len.1;have hll:=hl.len.1;clear hs hl hr
 by_cases h1:W.stem.length<=60
 ·by_cases h2:1<=W.loop.length
  ·by_cases h3:W.loop.length<=40
   ·have HR:=hid (show r=(dW W.stem 64&&dW W.loop 64)by rw[HR0.out,decide_eq_true h1,decide_eq_true h2,decide_eq_true h3];simp)
    have Bq:=hid (show W.stem.length<=60/\W.loop.length<=40 from⟨h1,h3⟩);have d1:¬(60:Int)<(W.stem.length:Int):=by omega
    have d2:¬(W.loop.length:Int)<1:=by omega
    have d3:¬(40:Int)<(W.loop.length:Int):=by omega
    have e1:decide ((60:Int)<(W.stem.length:Int))=false:=decide_eq_false d1;have e2:decide ((W.loop.length:Int)<1)=false:=decide_eq_false d2;have e3:decide ((40:Int)<(W.loop.length:Int))=false:=decide_eq_false d3;clear h1 h2 h3
    go_enter Tryz.func99,Tryz.ntmps99
    go_upto_region 1 with(fail)
    refine aF fun U hU=>?_;have HB:=hid (show Below w.heap.size w U by rw[hU];go_grown);have HE:=hid (show kD U w.heap.size W As cs Al cl by show U.heap[w.heap.size]?=_;rw[hU];exact at_new _ _ _ rfl);clear hU;obtain⟨s0,s1,s2⟩:=HE.out.cells;go_wp2_with fail
    clear s0 s1 s2 d1 d2 d3 e1 e2 e3;have HST:=hid (Below.refl U.heap.size U)
    go_loopw [3] (fun r wr=>∃k:Nat,k<=W.stem.length/\r = .int .i64 (k:Int)/\Below U.heap.size U wr/\(∀j,j<k->qo 64 (W.stem.getD j 0)=true)) (fun r _=>W.stem.length-(intOf r).toNat)
    case atStart=>exact⟨0,Nat.zero_le _,rfl,by first|exact Below.refl _ _|exact HST.out|go_grown,fun _ h=>absurd h (Nat.not_lt_zero _)⟩
    case round =>
     obtain⟨k,hk,rfl,hbl,hdn⟩:=hrel;have bJ:=hid hbl;have Hg:=hid hdn;clear hbl hdn;obtain⟨s0,s1,s2⟩:=(HE.out.below bJ.out).cells;have hNb:=Bq.out
     by_cases hlt:k<W.stem.length
     ·have hii:(k:Int)<(W.stem.length:Int):=by omega
      have hk0:(0:Int)<=(k:Int):=by omega
      have JR:=hid (au HB.out bJ.out);obtain⟨b1,o1,x,rfl,q1,q2,HX,hc⟩:=(H0.out.keep (Keeps.of_below JR.out fun _ h=>h)).get hlt;obtain⟨rx,hrx⟩:∃r,qo 64 x=r:=⟨_,rfl⟩;have HRX:=hid hrx;have LK:=hid (DY x wr);rw[hrx]at LK;have kQ:=hid HX.out;have dY:=hid hlt;clear hrx HX hlt hk;cases rx
      ·have HR2:=hid (show r=false by rw[HR.out,uK dY.out (by rw[kQ.out];exact HRX.out)];simp)
       go_wp2_with (go_at_call 130;(with_reducible refine LK.out.mono ?_);rintro e W9 ⟨rfl,Ai⟩;have HW9:=hid Ai;clear Ai)
       go_ret
       exact⟨by rw[HR2.out];rfl,by rw[HW9.out];exact JR.out⟩
      ·go_wp2_with (go_at_call 130;(with_reducible refine LK.out.mono ?_);rintro e W9 ⟨rfl,Ai⟩;have HW9:=hid Ai;clear Ai)
       go_roundw
       case rel=>exact⟨k+1,by have:=dY.out;omega,by go_num,by rw[HW9.out];exact bJ.out,fun j hj=>by
        by_cases hjk:j<k
        ·exact Hg.out j hjk
        ·obtain rfl:j=k:=by omega
         rw[kQ.out];exact HRX.out⟩
       case measure=>have:=dY.out;simp[intOf];omega
     ·have hii:¬(k:Int)<(W.stem.length:Int):=by omega
      have Wu:=hid (show dW W.stem 64=true from nK.2 fun j hj=>Hg.out j (by omega));clear hlt;go_wp2_with fail
      clear s0 s1 s2;have HST:=hid bJ.out
      go_loopw [5] (fun r wr=>∃k:Nat,k<=W.loop.length/\r = .int .i64 (k:Int)/\Below U.heap.size U wr/\(∀j,j<k->qo 64 (W.loop.getD j 0)=true)) (fun r _=>W.loop.length-(intOf r).toNat)
      case atStart=>exact⟨0,Nat.zero_le _,rfl,by first|exact Below.refl _ _|exact HST.out|go_grown,fun _ h=>absurd h (Nat.not_lt_zero _)⟩
      case round =>
       obtain⟨k,hk,rfl,hbl,hdn⟩:=hrel;have bJ:=hid hbl;have Hg:=hid hdn;clear hbl hdn;obtain⟨s0,s1,s2⟩:=(HE.out.below bJ.out).cells;have hNb:=Bq.out
       by_cases hlt:k<W.loop.length
       ·have hii:(k:Int)<(W.loop.length:Int):=by omega
        have hk0:(0:Int)<=(k:Int):=by omega
        have JR:=hid (au HB.out bJ.out);obtain⟨b1,o1,x,rfl,q1,q2,HX,hc⟩:=(H1.out.keep (Keeps.of_below JR.out fun _ h=>h)).get hlt;obtain⟨rx,hrx⟩:∃r,qo 64 x=r:=⟨_,rfl⟩;have HRX:=hid hrx;have LK:=hid (DY x wr);rw[hrx]at LK;have kQ:=hid HX.out;have dY:=hid hlt;clear hrx HX hlt hk;cases rx
        ·have HR2:=hid (show r=false by rw[HR.out,uK dY.out (by rw[kQ.out];exact HRX.out)];simp)
         go_wp2_with (go_at_call 130;(with_reducible refine LK.out.mono ?_);rintro e W9 ⟨rfl,Ai⟩;have HW9:=hid Ai;clear Ai)
         go_ret
         exact⟨by rw[HR2.out];rfl,by rw[HW9.out];exact JR.out⟩
        ·go_wp2_with (go_at_call 130;(with_reducible refine LK.out.mono ?_);rintro e W9 ⟨rfl,Ai⟩;have HW9:=hid Ai;clear Ai)
         go_roundw
         case rel=>exact⟨k+1,by have:=dY.out;omega,by go_num,by rw[HW9.out];exact bJ.out,fun j hj=>by
          by_cases hjk:j<k
          ·exact Hg.out j hjk
          ·obtain rfl:j=k:=by omega
           rw[kQ.out];exact HRX.out⟩
         case measure=>have:=dY.out;simp[intOf];omega
       ·have hii:¬(k:Int)<(W.loop.length:Int):=by omega
        have Wv:=hid (show dW W.loop 64=true from nK.2 fun j hj=>Hg.out j (by omega));clear hlt;go_wp2_with fail
        go_ret
        exact⟨by rw[show r=true by rw[HR.out,Wu.out,Wv.out];rfl];rfl,au HB.out bJ.out⟩
   ·have HR:=hid (show r=false by rw[HR0.out,decide_eq_false h3];simp)
    have d1:¬(60:Int)<(W.stem.length:Int):=by omega
    have e1:decide ((60:Int)<(W.stem.length:Int))=false:=decide_eq_false d1;have d2:¬(W.loop.length:Int)<1:=by omega
    have e2:decide ((W.loop.length:Int)<1)=false:=decide_eq_false d2;have d3:(40:Int)<(W.loop.length:Int):=by omega
    have e3:decide ((40:Int)<(W.loop.length:Int))=true:=decide_eq_true d3;clear h1 h2 h3
    go_enter Tryz.func99,Tryz.ntmps99
    go_upto_region 1 with(fail)
    refine aF fun U hU=>?_;have HB:=hid (show Below w.heap.size w U by rw[hU];go_grown);have HE:=hid (show kD U w.heap.size W As cs Al cl by show U.heap[w.heap.size]?=_;rw[hU];exact at_new _ _ _ rfl);clear hU;obtain⟨s0,s1,s2⟩:=HE.out.cells;go_wp2_with fail
    go_ret
    exact⟨by rw[HR.out];rfl,HB.out⟩
  ·have HR:=hid (show r=false by rw[HR0.out,decide_eq_false h2];simp)
   have d1:¬(60:Int)<(W.stem.length:Int):=by omega
   have e1:decide ((60:Int)<(W.stem.length:Int))=false:=decide_eq_false d1;have d2:(W.loop.length:Int)<1:=by omega
   have e2:decide ((W.loop.length:Int)<1)=true:=decide_eq_true d2;clear h1 h2
   go_enter Tryz.func99,Tryz.ntmps99
   go_upto_region 1 with(fail)
   refine aF fun U hU=>?_;have HB:=hid (show Below w.heap.size w U by rw[hU];go_grown);have HE:=hid (show kD U w.heap.size W As cs Al cl by show U.heap[w.heap.size]?=_;rw[hU];exact at_new _ _ _ rfl);clear hU;obtain⟨s0,s1,s2⟩:=HE.out.cells;go_wp2_with fail
   go_ret
   exact⟨by rw[HR.out];rfl,HB.out⟩
 ·have HR:=hid (show r=false by rw[HR0.out,decide_eq_false h1];simp)
  have d1:(60:Int)<(W.stem.length:Int):=by omega
  have e1:decide ((60:Int)<(W.stem.length:Int))=true:=decide_eq_true d1;clear h1
  go_enter Tryz.func99,Tryz.ntmps99
  go_upto_region 1 with(fail)
  refine aF fun U hU=>?_;have HB:=hid (show Below w.heap.size w U by rw[hU];go_grown);have HE:=hid (show kD U w.heap.size W As cs Al cl by show U.heap[w.heap.size]?=_;rw[hU];exact at_new _ _ _ rfl);clear hU;obtain⟨s0,s1,s2⟩:=HE.out.cells;go_wp2_with fail
  go_ret
  exact⟨by rw[HR.out];rfl,HB.out⟩
end Go.Proofs.YtdpbgcmfeajigaaGreatDoor
namespace Go.Proofs.YtdpbgcmfeajigaaGreatDoor
open Go.RowKit Go.Shelf
attribute [local go_sem] ak run_store_func Oper.semAt_some
theorem qa9 {W:jy}{m:Int}(h0:∀j,j<W.stem.length->W.stem.getD j 0<m)(h1:∀j,j<W.loop.length->W.loop.getD j 0<m):jC m W=eX W:=by
 unfold jC;cases hf:eX W
 ·rfl
 ·have hf':=hf
  unfold eX at hf';simp only[Bool.and_eq_true,decide_eq_true_eq]at hf'
  have key:∀{l:List Int},dW l 64=true->(∀j,j<l.length->l.getD j 0<m)->dW l m=true:=fun h h2=>nK.2 fun j hj=>by
   have h3:=nK.1 h j hj;unfold qo at h3⊢;rw[Bool.and_eq_true,decide_eq_true_eq,decide_eq_true_eq]at h3;rw[decide_eq_true h3.1,decide_eq_true (h2 j hj)];rfl
  rw[key hf'.1.2 h0,key hf'.2 h1];rfl
theorem OD {W:jy}{m:Int}{j:Nat}(h:(j<W.stem.length/\m<=W.stem.getD j 0)\/(j<W.loop.length/\m<=W.loop.getD j 0)):jC m W=false:=by
 unfold jC
 rcases h with⟨hj,h⟩|⟨hj,h⟩
 ·rw[uK hj (by unfold qo;rw[decide_eq_false (show¬W.stem.getD j 0<m by omega)];simp)];simp
 ·rw[uK hj (by unfold qo;rw[decide_eq_false (show¬W.loop.getD j 0<m by omega)];simp)];simp
theorem Oh {D:Dom}(W:jy)(m:Int)(v:Value)(w:World)(h:EY w D v W):Calls Tryz.prog 58 #[.int .i64 m,v] w fun e w'=>e = .returned (.bool (jC m W))/\Below w.heap.size w w':=by
 obtain⟨As,cs,Al,cl,rfl,hs,hl⟩:=h;have H0:=hid hs.old;have H1:=hid hl.old;obtain⟨r,hr⟩:∃r,jC m W=r:=⟨_,rfl⟩;have HR:=hid hr;rw[hr];have hsl:=hs.len.1;have hll:=hl.len.1;clear hs hl hr
 go_enter Tryz.func58,Tryz.ntmps58
 go_upto_region 1 with(fail)
 refine aF fun U hU=>?_;have HB:=hid (show Below w.heap.size w U by rw[hU];go_grown);have HE:=hid (show kD U w.heap.size W As cs Al cl by show U.heap[w.heap.size]?=_;rw[hU];exact at_new _ _ _ rfl);clear hU;go_wp2_with fail
 have HST:=hid (Below.refl U.heap.size U)
 go_loopw [5] (fun r wr=>∃k:Nat,k<=W.stem.length/\r = .int .i64 (k:Int)/\Below U.heap.size U wr/\(∀j,j<k->W.stem.getD j 0<m)) (fun r _=>W.stem.length-(intOf r).toNat)
 case atStart=>exact⟨0,Nat.zero_le _,rfl,by first|exact Below.refl _ _|exact HST.out|go_grown,fun _ h=>absurd h (Nat.not_lt_zero _)⟩
 case round =>
  obtain⟨k,hk,rfl,hbl,hdn⟩:=hrel;have bJ:=hid hbl;have qd4:=hid hdn;clear hbl hdn;obtain⟨s0,s1,s2⟩:=(HE.out.below bJ.out).cells
  by_cases hlt:k<W.stem.length
  ·have hii:(k:Int)<(W.stem.length:Int):=by omega
   have hk0:(0:Int)<=(k:Int):=by omega
   have JR:=hid (au HB.out bJ.out);obtain⟨b1,o1,x,rfl,q1,q2,HX,hc⟩:=(H0.out.keep (Keeps.of_below JR.out fun _ h=>h)).get hlt;have kQ:=hid HX.out;have dY:=hid hlt;clear HX hlt hk
   by_cases hx:m<=x
   ·have dx:decide (m<=x)=true:=decide_eq_true hx
    have HR2:=hid (show r=false by rw[<-HR.out];exact OD (j:=k) (.inl ⟨dY.out,by rw[kQ.out];exact hx⟩));go_wp2_with fail
    go_ret
    exact⟨by rw[HR2.out];rfl,JR.out⟩
   ·have dx:decide (m<=x)=false:=decide_eq_false hx
    have HXM:=hid (show x<m by omega);go_wp2_with fail
    go_roundw
    case rel=>exact⟨k+1,by have:=dY.out;omega,by go_num,bJ.out,fun j hj=>by
     by_cases hjk:j<k
     ·exact qd4.out j hjk
     ·obtain rfl:j=k:=by omega
      rw[kQ.out];exact HXM.out⟩
    case measure=>have:=dY.out;simp[intOf];omega
  ·have hii:¬(k:Int)<(W.stem.length:Int):=by omega
   have Wu:=hid (fun j (hj:j<W.stem.length)=>qd4.out j (by omega));clear hlt;go_wp2_with fail
   clear s0 s1 s2;have HST:=hid bJ.out
   go_loopw [6] (fun r wr=>∃k:Nat,k<=W.loop.length/\r = .int .i64 (k:Int)/\Below U.heap.size U wr/\(∀j,j<k->W.loop.getD j 0<m)) (fun r _=>W.loop.length-(intOf r).toNat)
   case atStart=>exact⟨0,Nat.zero_le _,rfl,by first|exact Below.refl _ _|exact HST.out|go_grown,fun _ h=>absurd h (Nat.not_lt_zero _)⟩
   case round =>
    obtain⟨k,hk,rfl,hbl,hdn⟩:=hrel;have bJ:=hid hbl;have qd5:=hid hdn;clear hbl hdn;obtain⟨s0,s1,s2⟩:=(HE.out.below bJ.out).cells
    by_cases hlt:k<W.loop.length
    ·have hii:(k:Int)<(W.loop.length:Int):=by omega
     have hk0:(0:Int)<=(k:Int):=by omega
     have JR:=hid (au HB.out bJ.out);obtain⟨b1,o1,x,rfl,q1,q2,HX,hc⟩:=(H1.out.keep (Keeps.of_below JR.out fun _ h=>h)).get hlt;have kQ:=hid HX.out;have dY:=hid hlt;clear HX hlt hk
     by_cases hx:m<=x
     ·have dx:decide (m<=x)=true:=decide_eq_true hx
      have HR2:=hid (show r=false by rw[<-HR.out];exact OD (j:=k) (.inr ⟨dY.out,by rw[kQ.out];exact hx⟩));go_wp2_with fail
      go_ret
      exact⟨by rw[HR2.out];rfl,JR.out⟩
     ·have dx:decide (m<=x)=false:=decide_eq_false hx
      have HXM:=hid (show x<m by omega);go_wp2_with fail
      go_roundw
      case rel=>exact⟨k+1,by have:=dY.out;omega,by go_num,bJ.out,fun j hj=>by
       by_cases hjk:j<k
       ·exact qd5.out j hjk
       ·obtain rfl:j=k:=by omega
        rw[kQ.out];exact HXM.out⟩
      case measure=>have:=dY.out;simp[intOf];omega
    ·have hii:¬(k:Int)<(W.loop.length:Int):=by omega
     have Wv:=hid (fun j (hj:j<W.loop.length)=>qd5.out j (by omega));clear hlt;have Lu:=hid (Ob W (.agg #[.slice As W.stem.length cs,.slice Al W.loop.length cl]) wr ⟨As,cs,Al,cl,rfl,H0.out.any (au HB.out bJ.out),H1.out.any (au HB.out bJ.out)⟩);have HR2:=hid (show eX W=r by rw[<-HR.out];exact(qa9 Wu.out Wv.out).symm);rw[HR2.out]at Lu;go_wp2_with (go_at_call 99;(with_reducible refine Lu.out.mono ?_);rintro e W9 ⟨rfl,pU⟩;have oD:=hid pU;clear pU)
     go_ret
     exact⟨rfl,au (au HB.out bJ.out) oD.out⟩
def jr (l:List Sg)(b:Bool):Nat->Int
 | 0=>1
 | k+1=>if(l.getD k default).inp=b then jr l b k*(l.getD k default).size else jr l b k
theorem D6 (l:List Sg)(b:Bool)(k:Nat):jr l b (k+1)=if(l.getD k default).inp=b then jr l b k*(l.getD k default).size else jr l b k:=rfl
theorem D5 (l:List Sg):∀k,k<=l.length->jr l true k*jr l false k=lW (l.take k)
 | 0,_=>rfl
 | k+1,h=>by
  have ih:=D5 l k (by omega);rw[aU l default (by omega),qp,<-ih];show _=_*((l.getD k default).size*1);rw[Int.mul_one,D6,D6];cases(l.getD k default).inp
  ·rw[if_neg (by simp),if_pos rfl,Int.mul_assoc]
  ·rw[if_pos rfl,if_neg (by simp),Int.mul_assoc,Int.mul_assoc,Int.mul_comm (l.getD k default).size]
theorem yT {l:List Sg}(h:dL l=true)(b:Bool):∀k,k<=l.length->1<=jr l b k/\jr l b k<=4 ^ k
 | 0,_=>by unfold jr;decide
 | k+1,hk=>by
  have ih:=yT h b k (by omega);have ho:=pz ((gU h).2.2.2 k (by omega))
  have hp:(4:Int) ^ (k+1)=4 ^ k*4:=Int.pow_succ ..
  unfold jr
  split
  ·refine⟨?_,?_⟩
   ·have:=Int.mul_le_mul ih.1 (show(1:Int)<=(l.getD k default).size by omega) (by omega) (by omega)
    omega
   ·rw[hp]
    exact Int.mul_le_mul ih.2 ho.2.2 (by omega) (by omega)
  ·rw[hp];omega
theorem RU {l:List Sg}(h:dL l=true)(b:Bool){k:Nat}(hk:k<=l.length):1<=jr l b k/\jr l b k<=4096:=by
 have h1:=yT h b k hk;have h6:=(gU h).2.1;refine⟨h1.1,Int.le_trans h1.2 ?_⟩;have:k=0\/k=1\/k=2\/k=3\/k=4\/k=5\/k=6:=by omega
 rcases this with rfl|rfl|rfl|rfl|rfl|rfl|rfl <;> decide
def vN (l:List Sg)(b:Bool):Int:=if dL l then jr l b l.length else 0
theorem Ih (l:List Sg):vN l true*vN l false=dh l:=by
 unfold vN dh
 split
 ·rw[D5 l l.length (Nat.le_refl _),List.take_length]
 ·rfl
theorem YZ {D:Dom}(l:List Sg)(b:Bool)(A:Option Addr)(n c:Nat)(w:World)(hn:n=l.length)(h:mG w D A c l) :
  Calls Tryz.prog 115 #[.slice A n c,.bool b] w fun e w'=>e = .returned (.int .i64 (vN l b))/\Below w.heap.size w w':=by
 have HG:=hid h.old;have HN:=hid hn;have OJ:=hid (DZ l A c n w hn h);have hnl:n<=140737488355328:=by rw[hn];exact h.len.1
 obtain⟨va,hva⟩:∃r,dL l=r:=⟨_,rfl⟩;have HV:=hid hva;have HZ:=hid (show vN l b=if va then jr l b l.length else 0 by unfold vN;rw[hva]);rw[hva]at OJ;obtain⟨z,hz⟩:∃z,vN l b=z:=⟨_,rfl⟩;rw[hz]at HZ⊢;clear h hn hva hz;cases va
 ·have HR:=hid (show z=0 by rw[HZ.out];rfl)
  go_enter Tryz.func115,Tryz.ntmps115
  go_wp2_with (go_at_call 23;(with_reducible refine OJ.out.mono ?_);rintro e W1 ⟨rfl,hb1⟩;have HB1:=hid hb1;clear hb1)
  go_ret
  exact⟨by rw[HR.out];rfl,HB1.out⟩
 ·have HR:=hid (show z=jr l b l.length by rw[HZ.out];rfl)
  go_enter Tryz.func115,Tryz.ntmps115
  go_upto_region 3 with(go_at_call 23;(with_reducible refine OJ.out.mono ?_);rintro e W1 ⟨rfl,hb1⟩;have HB1:=hid hb1;clear hb1)
  go_wp2_with fail
  go_loopw [5,6] (fun p r wr=>∃(k:Nat) (P:Int),k<=n/\p = .int .i64 P/\r = .int .i64 (k:Int)/\Hid (P=jr l b k)/\Below w.heap.size w wr) (fun _ r _=>n-(intOf r).toNat)
  case atStart=>exact⟨0,1,Nat.zero_le _,rfl,rfl,rfl,by first|exact HB1.out|go_grown⟩
  case round =>
   obtain⟨k,P,hk,rfl,rfl,HP,hbl⟩:=hrel;have bJ:=hid hbl;clear hbl
   by_cases hlt:k<n
   ·have hii:(k:Int)<(n:Int):=by omega
    have hk0:(0:Int)<=(k:Int):=by omega
    have hlf:k<l.length:=by rw[<-HN.out];exact hlt
    obtain⟨bg,og,s,rfl,TA,HX,g0,g1,g2⟩:=(HG.out.keep (Keeps.of_below bJ.out fun _ h=>h)).get hlf;have OI:=hid (show jr l b (k+1)=if s.inp=b then P*s.size else P by rw[HP.out,<-HX.out];rfl);have hsb:=pz ((gU HV.out).2.2.2 k hlf);have hPb:=RU HV.out b (k:=k) (by omega);rw[HX.out]at hsb;rw[<-HP.out]at hPb
    have hw:IntKind.i64.wrap (P*s.size)=P*s.size:=by
     refine IntWalk.i64_in _ ⟨?_,?_⟩
     ·have:=Int.mul_le_mul hPb.1 (show(1:Int)<=s.size by omega) (by omega) (by omega);omega
     ·have:=Int.mul_le_mul hPb.2 hsb.2.2 (by omega) (by omega);omega
    have dY:=hid hlt;obtain⟨sb,qfv⟩:∃x,s.inp=x:=⟨_,rfl⟩;rw[qfv]at g1 OI;obtain⟨PS,hPS⟩:∃x,P*s.size=x:=⟨_,rfl⟩;rw[hPS]at hw OI;have HPS:=hid hPS;clear hlt hlf hk HX hsb hPb g0 qfv
    by_cases hbb:sb=b
    ·have qcs:=hid (show jr l b (k+1)=PS by rw[OI.out,if_pos hbb])
     subst hbb;cases sb
     all_goals
      rw[<-hPS]at hw;clear hPS;go_wp2_with fail
      go_roundw
      case rel=>exact⟨k+1,PS,by have:=dY.out;omega,by first|rw[hw,HPS.out]|rw[HPS.out],by go_num,qcs.out.symm,bJ.out⟩
      case measure=>have:=dY.out;simp[intOf];omega
    ·have qcs:=hid (show jr l b (k+1)=P by rw[OI.out,if_neg hbb])
     cases sb <;> cases b
     all_goals first
      | exact absurd rfl hbb
      | skip
     all_goals
      clear hbb hPS hw;go_wp2_with fail
      go_roundw
      case rel=>exact⟨k+1,P,by have:=dY.out;omega,rfl,by go_num,qcs.out.symm,bJ.out⟩
      case measure=>have:=dY.out;simp[intOf];omega
   ·have hii:¬(k:Int)<(n:Int):=by omega
    have Ir:=hid (show P=z by rw[HP.out,HR.out,<-HN.out];congr 1;omega);go_wp2_with fail
    go_ret
    exact⟨by rw[<-Ir.out];rfl,bJ.out⟩
theorem YR (A:Option Addr)(n c:Nat)(w W:World)(p:Int)(hK:Calls Tryz.prog 115 #[.slice A n c,.bool true] W fun e w'=>e = .returned (.int .i64 p)/\Below w.heap.size w w') :
  Calls Tryz.prog 74 #[.slice A n c] W fun e w'=>e = .returned (.int .i64 p)/\Below w.heap.size w w':=by
 have HK:=hid hK;clear hK
 go_enter Tryz.func74,Tryz.ntmps74
 go_wp2_with (go_at_call 115;(with_reducible refine HK.out.mono ?_);rintro e W1 ⟨rfl,hb1⟩;have HB1:=hid hb1;clear hb1)
 go_ret
 exact⟨rfl,HB1.out⟩
theorem Vz (A:Option Addr)(n c:Nat)(w W:World)(p:Int)(hK:Calls Tryz.prog 115 #[.slice A n c,.bool false] W fun e w'=>e = .returned (.int .i64 p)/\Below w.heap.size w w') :
  Calls Tryz.prog 75 #[.slice A n c] W fun e w'=>e = .returned (.int .i64 p)/\Below w.heap.size w w':=by
 have HK:=hid hK;clear hK
 go_enter Tryz.func75,Tryz.ntmps75
 go_wp2_with (go_at_call 115;(with_reducible refine HK.out.mono ?_);rintro e W1 ⟨rfl,hb1⟩;have HB1:=hid hb1;clear hb1)
 go_ret
 exact⟨rfl,HB1.out⟩
theorem Ic {D:Dom}(l:List Sg)(A:Option Addr)(n c:Nat)(w:World)(hn:n=l.length)(h:mG w D A c l) :
  Calls Tryz.prog 26 #[.slice A n c] w fun e w'=>e = .returned (.int .i64 (dh l))/\Below w.heap.size w w':=by
 have HG:=hid h.old;have HN:=hid hn
 have key:∀(b:Bool) (W:World),Below w.heap.size w W->Calls Tryz.prog 115 #[.slice A n c,.bool b] W fun e w'=>e = .returned (.int .i64 (vN l b))/\Below w.heap.size w w':=fun b W hb=>by
  refine(YZ l b A n c W HN.out (HG.out.keep (Keeps.of_below hb fun _ h=>h))).mono ?_;rintro e w' ⟨rfl,hb'⟩;exact⟨rfl,au hb hb'⟩
 have Sz:=hid fun (W:World) (hb:Below w.heap.size w W) (p:Int) (hp:vN l true=p)=>YR A n c w W p (by rw[<-hp];exact key true W hb);have HOU:=hid fun (W:World) (hb:Below w.heap.size w W) (p:Int) (hp:vN l false=p)=>Vz A n c w W p (by rw[<-hp];exact key false W hb);obtain⟨p,hp⟩:∃p,vN l true=p:=⟨_,rfl⟩;obtain⟨q,hq⟩:∃q,vN l false=q:=⟨_,rfl⟩;have HPQ:=hid (show p*q=dh l by rw[<-hp,<-hq];exact Ih l)
 have hw:IntKind.i64.wrap (p*q)=p*q:=by
  rw[HPQ.out];refine IntWalk.i64_in _ ?_;unfold dh
  split
  ·rename_i hv
   have h1:=(gU hv).2.2.1;have h2:=(qF hv l.length (Nat.le_refl _)).lo;rw[List.take_length]at h2;omega
  ·omega
 have HP:=hid hp;have HQ:=hid hq;rw[<-HPQ.out];have HB0:=hid (Below.refl w.heap.size w);clear key h hn hp hq
 go_enter Tryz.func26,Tryz.ntmps26
 go_wp2_with (first
  | (go_at_call 74;(with_reducible refine(Sz.out _ HB0.out _ HP.out).mono ?_);rintro e W1 ⟨rfl,hb1⟩;have HB1:=hid hb1;clear hb1)
  | (go_at_call 75;(with_reducible refine(HOU.out _ HB1.out _ HQ.out).mono ?_);rintro e W2 ⟨rfl,hb2⟩;have HB2:=hid hb2;clear hb2))
 go_ret
 exact⟨by first|rfl|(rw[hw];rfl),HB2.out⟩
end Go.Proofs.YtdpbgcmfeajigaaGreatDoor
namespace Go.Proofs.YtdpbgcmfeajigaaGreatDoor
def sA:ByteArray:=⟨#[97]⟩
def sB:ByteArray:=⟨#[98]⟩
def OM (s:ByteArray):Fm := .mk 3 s 1 0 []
def eS (v:Int):Fm := .mk 16 ⟨#[]⟩ v 0 [OM sA,OM sB]
def eY (v u:Int):Fm := .mk 15 ⟨#[]⟩ v 0 [eS u]
def eF (v u:Int):Fm := .mk 6 ⟨#[]⟩ 0 0 [OM sA,eY v u]
def eT:Fm := .mk 15 ⟨#[]⟩ 1 0 [OM sA]
def eL:List Sg := [⟨sA,true,2⟩,⟨sB,false,2⟩]
def eW:jy:=⟨[],[1]⟩
theorem Kr:bG (eF 0 0)=true:=by decide +kernel
theorem qao:dH (eF 0 0) = [eS 0,eY 0 0]:=by decide +kernel
theorem wJ:kY [eS 0,eY 0 0]=true:=by decide +kernel
theorem qaj:kY [eT]=true:=by decide +kernel
theorem Kt:dL eL=true:=by decide +kernel
theorem BM:dh eL=4:=by decide +kernel
theorem Tf:YB eL [0,1]=2/\JF eL [0,1]=true:=by decide +kernel
theorem Ti:YB eL [1,0]=1/\JF eL [1,0]=true:=by decide +kernel
theorem qap:sD [eS 0,eY 0 0]=0:=by decide +kernel
theorem qak:rG (jV eL 2) [eS 0,eY 0 0] 0=3:=by decide +kernel
theorem qal:rG (jV eL 1) [eS 0,eY 0 0] 3=3:=by decide +kernel
theorem qam:rG (jV eL 0) [eS 0,eY 0 0] 3=0:=by decide +kernel
theorem qan:rG (jV eL 0) [eT] 1=0:=by decide +kernel
theorem qeY:qaW [eS 0,eY 0 0] 3 (eF 0 0)=eF 1 1:=by decide +kernel
theorem qcK:fD (jV eL 0) (bH [eS 0,eY 0 0] 3) (eY 0 0)=true:=by decide +kernel
theorem qcL:fD (jV eL 0) (bH [eS 0,eY 0 0] 3) (eS 0)=false:=by decide +kernel
theorem qcM:fD (jV eL 1) (bH [eS 0,eY 0 0] 1) (eS 0)=true:=by decide +kernel
theorem qai:qK eL (eF 0 0) eW 0=true:=by decide +kernel
theorem XG:jC 4 eW=true:=by decide +kernel
end Go.Proofs.YtdpbgcmfeajigaaGreatDoor
