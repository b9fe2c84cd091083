/-
  Parts of a proof: UY UZ QH QI.
-/
import Derived.Test.YtdpbgcmfeajigaaGreatDoorP31
set_option linter.unusedSimpArgs false
set_option linter.unusedVariables false
set_option maxHeartbeats 8000000
set_option maxRecDepth 100000
namespace Go.Proofs.YtdpbgcmfeajigaaGreatDoor
open Go.RowKit Go.Shelf
attribute [local go_sem] ak run_store_func Oper.semAt_some
theorem VD (f:Fm):kY f=bf f:=(RD f).symm
theorem FW {D:Dom}(f:Fm)(v:Value)(w:World)(h:bG w D v f)(r:Bool)(hr:bf f=r):Calls Tryz.prog 11 #[v] w fun e w'=>e = .returned (.bool r)/\Below w.heap.size w w' :=
 Zx r (by rw[VD,hr]) h
theorem OC {D:Dom}(f:Fm)(v:Value)(w:World)(h:bG w D v f) :
  Calls Tryz.prog 24 #[v] w fun e w'=>∃A c,e = .returned (.slice A (aV f).length c)/\bM w' aZ (aV f) A c/\Below w.heap.size w w':=by
 obtain⟨A,c,rfl,ha⟩:=h;have HA:=hid ha.old;clear ha
 go_enter Tryz.func24,Tryz.ntmps24
 go_upto_region 1 with(fail)
 refine aH fun W hW=>?_;have HB:=hid (show Below w.heap.size w W by rw[hW];go_grown);have HE:=hid (show dI W w.heap.size f A c by show W.heap[w.heap.size]?=_;rw[hW];exact at_new _ _ _ rfl);clear hW;obtain⟨e0,e1,e2,e3,e4,e5⟩:=HE.out.cells;obtain⟨lo,hlo⟩:∃r,bf f=r:=⟨_,rfl⟩;have tZ:=hid (FW f _ W (bG.cells5 (HA.out.keep (Keeps.of_below HB.out fun _ h=>h))) lo hlo);have Ip:=hid hlo;clear hlo;cases lo
 ·have HZ:=hid (show aV f = []by unfold aV;rw[Ip.out];rfl)
  go_wp2_with (go_at_call 11;(with_reducible refine tZ.out.mono ?_);rintro e W1 ⟨rfl,hb1⟩;have HB1:=hid hb1;clear hb1)
  go_ret
  exact⟨none,0,by rw[HZ.out];rfl,by rw[HZ.out];exact bM.nil _ _ _ (by omega),ay HB.out HB1.out⟩
 ·have HZ:=hid (mD Ip.out)
  have jQ:=hid (show f.size<=400 from(gY Ip.out).1);go_upto_region 3 with(go_at_call 11;(with_reducible refine tZ.out.mono ?_);rintro e W1 ⟨rfl,hb1⟩;have HB1:=hid hb1;clear e0 e1 e2 e3 e4 e5;obtain⟨e0,e1,e2,e3,e4,e5⟩:=(HE.out.below hb1).cells;clear hb1)
  have aY:=hid (ay HB.out HB1.out);have WM:=hid (Kt f [] none 0 0 [] W1.heap.size _ W1 rfl (vW.nil _ _) (bG.cells5 (((HA.out.keep (Keeps.of_below aY.out fun _ h=>h)).mono fun k hk hl=>hl))) (Nat.le_refl _) (by have:=jQ.out;simp;omega));have HL4:=hid (show(eP [] (aW f)).length<=400 by have h1:=QW [] f;have:=jQ.out;simp at h1;omega);go_wp2_with (go_at_call 53;(with_reducible refine WM.out.mono ?_);rintro e W2 ⟨A2,c2,sl2,rfl,hp2,hl2⟩;have HP2:=hid hp2;have HL2:=hid hl2;clear hp2 hl2)
  go_ret
  exact⟨A2,c2,by rw[HZ.out];rfl,by rw[HZ.out];exact HP2.out.rd (by have:=HL4.out;omega),ay aY.out (HL2.out.below (fun k hk=>by cases hk) (Nat.le_refl _))⟩
def qdE (l:List Sg)(f:Fm):Bool:=if f.op=3 then decide (gu l f.name<l.length)&&decide (0<=f.val)&&decide (f.val<(l.getD (gu l f.name) default).size)else true
mutual
def fitAll (l:List Sg):Fm->Bool
 | .mk o n v b L=>qdE l (.mk o n v b L)&&xC l L
def xC (l:List Sg):List Fm->Bool
 | []=>true
 | f :: L=>fitAll l f&&xC l L
end
theorem Dp {l:List Sg}:∀{L:List Fm},xC l L=true ↔ ∀g,g∈L->fitAll l g=true
 | []=>by simp[xC]
 | f :: L=>by rw[xC,Bool.and_eq_true,Dp];simp
theorem UZ (l:List Sg)(f:Fm):fitAll l f=(qdE l f&&xC l f.args):=by cases f;simp only[fitAll,Fm.args]
end Go.Proofs.YtdpbgcmfeajigaaGreatDoor
namespace Go.Proofs.YtdpbgcmfeajigaaGreatDoor
open Go.RowKit Go.Shelf
attribute [local go_sem] ak run_store_func Oper.semAt_some
end Go.Proofs.YtdpbgcmfeajigaaGreatDoor
namespace Go.Proofs.YtdpbgcmfeajigaaGreatDoor
open Go.RowKit Go.Shelf
attribute [local go_sem] ak run_store_func Oper.semAt_some
def jl (l:List Sg)(b:Bool):Nat->Int
 | 0=>1
 | k+1=>if(l.getD k default).inp=b then jl l b k*(l.getD k default).size else jl l b k
theorem DT (l:List Sg)(b:Bool)(k:Nat):jl l b (k+1)=if(l.getD k default).inp=b then jl l b k*(l.getD k default).size else jl l b k:=rfl
theorem DR (l:List Sg):∀k,k<=l.length->jl l true k*jl l false k=lK (l.take k)
 | 0,_=>rfl
 | k+1,h=>by
  have ih:=DR l k (by omega);rw[aT l default (by omega),pY,<-ih];show _=_*((l.getD k default).size*1);rw[Int.mul_one,DT,DT];cases(l.getD k default).inp
  ·rw[if_neg (by simp),if_pos rfl,Int.mul_assoc]
  ·rw[if_pos rfl,if_neg (by simp),Int.mul_assoc,Int.mul_assoc,Int.mul_comm (l.getD k default).size]
theorem yF {l:List Sg}(h:dM l=true)(b:Bool):∀k,k<=l.length->1<=jl l b k/\jl l b k<=4 ^ k
 | 0,_=>by unfold jl;decide
 | k+1,hk=>by
  have ih:=yF h b k (by omega);have ho:=oU ((fO h).2.2.2 k (by omega))
  have hp:(4:Int) ^ (k+1)=4 ^ k*4:=Int.pow_succ ..
  unfold jl
  split
  ·refine⟨?_,?_⟩
   ·have:=Int.mul_le_mul ih.1 (show(1:Int)<=(l.getD k default).size by omega) (by omega) (by omega)
    omega
   ·rw[hp]
    exact Int.mul_le_mul ih.2 ho.2.2 (by omega) (by omega)
  ·rw[hp];omega
theorem SL {l:List Sg}(h:dM l=true)(b:Bool){k:Nat}(hk:k<=l.length):1<=jl l b k/\jl l b k<=4096:=by
 have h1:=yF h b k hk;have h6:=(fO h).2.1;refine⟨h1.1,Int.le_trans h1.2 ?_⟩;have:k=0\/k=1\/k=2\/k=3\/k=4\/k=5\/k=6:=by omega
 rcases this with rfl|rfl|rfl|rfl|rfl|rfl|rfl <;> decide
def vw (l:List Sg)(b:Bool):Int:=if dM l then jl l b l.length else 0
theorem Ih (l:List Sg):vw l true*vw l false=cO l:=by
 unfold vw cO
 split
 ·rw[DR l l.length (Nat.le_refl _),List.take_length]
 ·rfl
theorem ZE {D:Dom}(l:List Sg)(b:Bool)(A:Option Addr)(n c:Nat)(w:World)(hn:n=l.length)(h:lV w D A c l) :
  Calls Tryz.prog 115 #[.slice A n c,.bool b] w fun e w'=>e = .returned (.int .i64 (vw l b))/\Below w.heap.size w w':=by
 have HG:=hid h.old;have HN:=hid hn;have WR:=hid (DN l A c n w hn h);have hnl:n<=140737488355328:=by rw[hn];exact h.len.1
 obtain⟨va,hva⟩:∃r,dM l=r:=⟨_,rfl⟩;have HV:=hid hva;have HZ:=hid (show vw l b=if va then jl l b l.length else 0 by unfold vw;rw[hva]);rw[hva]at WR;obtain⟨z,hz⟩:∃z,vw l b=z:=⟨_,rfl⟩;rw[hz]at HZ⊢;clear h hn hva hz;cases va
 ·have HR:=hid (show z=0 by rw[HZ.out];rfl)
  go_enter Tryz.func115,Tryz.ntmps115
  go_wp2_with (go_at_call 23;(with_reducible refine WR.out.mono ?_);rintro e W1 ⟨rfl,hb1⟩;have HB1:=hid hb1;clear hb1)
  go_ret
  exact⟨by rw[HR.out];rfl,HB1.out⟩
 ·have HR:=hid (show z=jl l b l.length by rw[HZ.out];rfl)
  go_enter Tryz.func115,Tryz.ntmps115
  go_upto_region 3 with(go_at_call 23;(with_reducible refine WR.out.mono ?_);rintro e W1 ⟨rfl,hb1⟩;have HB1:=hid hb1;clear hb1)
  go_wp2_with fail
  go_loopw [5,6] (fun p r wr=>∃(k:Nat) (P:Int),k<=n/\p = .int .i64 P/\r = .int .i64 (k:Int)/\Hid (P=jl l b k)/\Below w.heap.size w wr) (fun _ r _=>n-(intOf r).toNat)
  case atStart=>exact⟨0,1,Nat.zero_le _,rfl,rfl,rfl,by first|exact HB1.out|go_grown⟩
  case round =>
   obtain⟨k,P,hk,rfl,rfl,HP,hbl⟩:=hrel;have bT:=hid hbl;clear hbl
   by_cases hlt:k<n
   ·have hii:(k:Int)<(n:Int):=by omega
    have hk0:(0:Int)<=(k:Int):=by omega
    have hlf:k<l.length:=by rw[<-HN.out];exact hlt
    obtain⟨bg,og,s,rfl,hlg,HX,g0,g1,g2⟩:=(HG.out.keep (Keeps.of_below bT.out fun _ h=>h)).get hlf;have O8:=hid (show jl l b (k+1)=if s.inp=b then P*s.size else P by rw[HP.out,<-HX.out];rfl);have hsb:=oU ((fO HV.out).2.2.2 k hlf);have hPb:=SL HV.out b (k:=k) (by omega);rw[HX.out]at hsb;rw[<-HP.out]at hPb
    have hw:IntKind.i64.wrap (P*s.size)=P*s.size:=by
     refine IntWalk.i64_in _ ⟨?_,?_⟩
     ·have:=Int.mul_le_mul hPb.1 (show(1:Int)<=s.size by omega) (by omega) (by omega);omega
     ·have:=Int.mul_le_mul hPb.2 hsb.2.2 (by omega) (by omega);omega
    have fQ:=hid hlt;obtain⟨sb,qgm⟩:∃x,s.inp=x:=⟨_,rfl⟩;rw[qgm]at g1 O8;obtain⟨PS,hPS⟩:∃x,P*s.size=x:=⟨_,rfl⟩;rw[hPS]at hw O8;have HPS:=hid hPS;clear hlt hlf hk HX hsb hPb g0 qgm
    by_cases hbb:sb=b
    ·have qdg:=hid (show jl l b (k+1)=PS by rw[O8.out,if_pos hbb])
     subst hbb;cases sb
     all_goals
      rw[<-hPS]at hw;clear hPS;go_wp2_with fail
      go_roundw
      case rel=>exact⟨k+1,PS,by have:=fQ.out;omega,by first|rw[hw,HPS.out]|rw[HPS.out],by go_num,qdg.out.symm,bT.out⟩
      case measure=>have:=fQ.out;simp[intOf];omega
    ·have qdg:=hid (show jl l b (k+1)=P by rw[O8.out,if_neg hbb])
     cases sb <;> cases b
     all_goals first
      | exact absurd rfl hbb
      | skip
     all_goals
      clear hbb hPS hw;go_wp2_with fail
      go_roundw
      case rel=>exact⟨k+1,P,by have:=fQ.out;omega,rfl,by go_num,qdg.out.symm,bT.out⟩
      case measure=>have:=fQ.out;simp[intOf];omega
   ·have hii:¬(k:Int)<(n:Int):=by omega
    have Iq:=hid (show P=z by rw[HP.out,HR.out,<-HN.out];congr 1;omega);go_wp2_with fail
    go_ret
    exact⟨by rw[<-Iq.out];rfl,bT.out⟩
theorem Zv (A:Option Addr)(n c:Nat)(w W:World)(p:Int)(hK:Calls Tryz.prog 115 #[.slice A n c,.bool true] W fun e w'=>e = .returned (.int .i64 p)/\Below w.heap.size w w') :
  Calls Tryz.prog 74 #[.slice A n c] W fun e w'=>e = .returned (.int .i64 p)/\Below w.heap.size w w':=by
 have HK:=hid hK;clear hK
 go_enter Tryz.func74,Tryz.ntmps74
 go_wp2_with (go_at_call 115;(with_reducible refine HK.out.mono ?_);rintro e W1 ⟨rfl,hb1⟩;have HB1:=hid hb1;clear hb1)
 go_ret
 exact⟨rfl,HB1.out⟩
theorem VZ (A:Option Addr)(n c:Nat)(w W:World)(p:Int)(hK:Calls Tryz.prog 115 #[.slice A n c,.bool false] W fun e w'=>e = .returned (.int .i64 p)/\Below w.heap.size w w') :
  Calls Tryz.prog 75 #[.slice A n c] W fun e w'=>e = .returned (.int .i64 p)/\Below w.heap.size w w':=by
 have HK:=hid hK;clear hK
 go_enter Tryz.func75,Tryz.ntmps75
 go_wp2_with (go_at_call 115;(with_reducible refine HK.out.mono ?_);rintro e W1 ⟨rfl,hb1⟩;have HB1:=hid hb1;clear hb1)
 go_ret
 exact⟨rfl,HB1.out⟩
theorem Ic {D:Dom}(l:List Sg)(A:Option Addr)(n c:Nat)(w:World)(hn:n=l.length)(h:lV w D A c l) :
  Calls Tryz.prog 26 #[.slice A n c] w fun e w'=>e = .returned (.int .i64 (cO l))/\Below w.heap.size w w':=by
 have HG:=hid h.old;have HN:=hid hn
 have key:∀(b:Bool) (W:World),Below w.heap.size w W->Calls Tryz.prog 115 #[.slice A n c,.bool b] W fun e w'=>e = .returned (.int .i64 (vw l b))/\Below w.heap.size w w':=fun b W hb=>by
  refine(ZE l b A n c W HN.out (HG.out.keep (Keeps.of_below hb fun _ h=>h))).mono ?_;rintro e w' ⟨rfl,hb'⟩;exact⟨rfl,ay hb hb'⟩
 have L6:=hid fun (W:World) (hb:Below w.heap.size w W) (p:Int) (hp:vw l true=p)=>Zv A n c w W p (by rw[<-hp];exact key true W hb);have HOU:=hid fun (W:World) (hb:Below w.heap.size w W) (p:Int) (hp:vw l false=p)=>VZ A n c w W p (by rw[<-hp];exact key false W hb);obtain⟨p,hp⟩:∃p,vw l true=p:=⟨_,rfl⟩;obtain⟨q,hq⟩:∃q,vw l false=q:=⟨_,rfl⟩;have HPQ:=hid (show p*q=cO l by rw[<-hp,<-hq];exact Ih l)
 have hw:IntKind.i64.wrap (p*q)=p*q:=by
  rw[HPQ.out];refine IntWalk.i64_in _ ?_;unfold cO
  split
  ·rename_i hv
   have h1:=(fO hv).2.2.1;have h2:=(nT hv l.length (Nat.le_refl _)).lo;rw[List.take_length]at h2;omega
  ·omega
 have HP:=hid hp;have HQ:=hid hq;rw[<-HPQ.out];have HB0:=hid (Below.refl w.heap.size w);clear key h hn hp hq
 go_enter Tryz.func26,Tryz.ntmps26
 go_wp2_with (first
  | (go_at_call 74;(with_reducible refine(L6.out _ HB0.out _ HP.out).mono ?_);rintro e W1 ⟨rfl,hb1⟩;have HB1:=hid hb1;clear hb1)
  | (go_at_call 75;(with_reducible refine(HOU.out _ HB1.out _ HQ.out).mono ?_);rintro e W2 ⟨rfl,hb2⟩;have HB2:=hid hb2;clear hb2))
 go_ret
 exact⟨by first|rfl|(rw[hw];rfl),HB2.out⟩
theorem Le {D E:Dom}{w:World}{A B:Option Addr}{n m c d:Nat}{a b:List ByteArray}(h:Qi w D A c a)(h2:Qi w E B d b)(hn:n=a.length)(hm:m=b.length) :
  Calls Tryz.prog 31 #[.slice A n c,.slice B m d] w fun e w'=>e = .returned (.bool (Kq a b))/\Below w.heap.size w w':=by
 subst hn hm;have hla:=h.len;have hlb:=h2.len
 by_cases hl:a.length=b.length
 ·have d1:((a.length:Int) !=(b.length:Int))=false:=by rw[hl];simp
  have HA:=hid h;have HB:=hid h2;have HL:=hid hl;clear h h2 hl
  go_enter Tryz.func31,Tryz.ntmps31
  go_wp2_with fail
  go_loopw [5] (fun r wr=>∃i:Nat,i<=a.length/\r = .int .i64 (i:Int)/\aU w wr/\fA i (fun i=>decide (a.getD i ⟨#[]⟩=b.getD i ⟨#[]⟩))) (fun r _=>a.length-(intOf r).toNat)
  case atStart=>exact⟨0,Nat.zero_le _,rfl,aU.refl _,fA.zero _⟩
  case round =>
   obtain⟨i,hi,rfl,hdr,hall⟩:=hrel;have HDR:=hid hdr;have fU:=hid hall;clear hall hdr
   by_cases hlt:i<a.length
   ·have hii:(i:Int)<a.length:=by omega
    have hij:(i:Int)<b.length:=by have:=HL.out;omega
    obtain⟨b1,o1,x,rfl,l1,HX,q1⟩:=(HA.out.below (HDR.out.below _)).get hlt;obtain⟨b2,o2,y,rfl,l2,HY,q2⟩:=(HB.out.below (HDR.out.below _)).get (k:=i) (by have:=HL.out;omega);have oh:=hid HX.out;have HYY:=hid HY.out;clear HX HY
    by_cases hxy:x=y
    ·have d2:(x.toList==y.toList)=true:=lu.2 hxy
     have HE:=hid (show decide (a.getD i ⟨#[]⟩=b.getD i ⟨#[]⟩)=true from decide_eq_true (by rw[oh.out,HYY.out];exact hxy));clear hxy;go_upto_region 6 with(fail)
     go_quiet (fail)
     go_wp2_with fail
     go_roundw
     case rel=>exact⟨i+1,by omega,by go_num,HDR.out.drewN _,fU.out.succ HE.out⟩
     case measure=>simp[intOf];omega
    ·have d2:(x.toList==y.toList)=false:=by
      cases hb:(x.toList==y.toList)
      ·rfl
      ·exact absurd (lu.1 hb) hxy
     have HE:=hid (show Kq a b=false by
      cases hq:Kq a b
      ·rfl
      ·have:=Nv.1 hq
       subst this
       exact absurd (oh.out.symm.trans HYY.out) hxy)
     clear hxy;go_upto_region 6 with(fail)
     go_quiet (fail)
     go_wp2_with fail
     go_ret
     exact⟨aC HE.out.symm,(HDR.out.drewN _).below _⟩
   ·have hii:¬(i:Int)<a.length:=by omega
    have HE:=hid (show Kq a b=true by
     unfold Kq
     rw[fU.out.all (by omega),decide_eq_true HL.out];rfl)
    go_wp2_with fail
    go_ret
    exact⟨aC HE.out.symm,HDR.out.below _⟩
 ·have d1:((a.length:Int) !=(b.length:Int))=true:=by simp;omega
  have HE:=hid (show Kq a b=false by unfold Kq;rw[decide_eq_false hl];rfl);clear h h2 hl
  go_enter Tryz.func31,Tryz.ntmps31
  go_wp2_with fail
  go_ret
  exact⟨aC HE.out.symm,Below.refl _ _⟩
end Go.Proofs.YtdpbgcmfeajigaaGreatDoor
namespace Go.Proofs.YtdpbgcmfeajigaaGreatDoor
def sA:ByteArray:=⟨#[97]⟩
def sB:ByteArray:=⟨#[98]⟩
def Ph (s:ByteArray):Fm := .mk 3 s 1 0 []
def eS (v:Int):Fm := .mk 16 ⟨#[]⟩ v 0 [Ph sA,Ph sB]
def eY (v u:Int):Fm := .mk 15 ⟨#[]⟩ v 0 [eS u]
def eF (v u:Int):Fm := .mk 6 ⟨#[]⟩ 0 0 [Ph sA,eY v u]
def eT:Fm := .mk 15 ⟨#[]⟩ 1 0 [Ph sA]
def eL:List Sg := [⟨sA,true,2⟩,⟨sB,false,2⟩]
def eW:lS:=⟨[],[1]⟩
theorem J9:bf (eF 0 0)=true:=by decide +kernel
theorem qa5:aV (eF 0 0) = [eS 0,eY 0 0]:=by decide +kernel
theorem wE:jX [eS 0,eY 0 0]=true:=by decide +kernel
theorem qaY:jX [eT]=true:=by decide +kernel
theorem Ko:dM eL=true:=by decide +kernel
theorem Bl:cO eL=4:=by decide +kernel
theorem TN:Zb eL [0,1]=2/\JG eL [0,1]=true:=by decide +kernel
theorem TP:Zb eL [1,0]=1/\JG eL [1,0]=true:=by decide +kernel
theorem qa6:rQ [eS 0,eY 0 0]=0:=by decide +kernel
theorem qaZ:tq (lN eL 2) [eS 0,eY 0 0] 0=3:=by decide +kernel
theorem qa1:tq (lN eL 1) [eS 0,eY 0 0] 3=3:=by decide +kernel
theorem qa3:tq (lN eL 0) [eS 0,eY 0 0] 3=0:=by decide +kernel
theorem qa4:tq (lN eL 0) [eT] 1=0:=by decide +kernel
theorem qfL:qc [eS 0,eY 0 0] 3 (eF 0 0)=eF 1 1:=by decide +kernel
theorem qdA:fH (lN eL 0) (bZ [eS 0,eY 0 0] 3) (eY 0 0)=true:=by decide +kernel
theorem qdB:fH (lN eL 0) (bZ [eS 0,eY 0 0] 3) (eS 0)=false:=by decide +kernel
theorem qdC:fH (lN eL 1) (bZ [eS 0,eY 0 0] 1) (eS 0)=true:=by decide +kernel
theorem qaX:Kw eL (eF 0 0) eW 0=true:=by decide +kernel
theorem Ye:rG 4 eW=true:=by decide +kernel
end Go.Proofs.YtdpbgcmfeajigaaGreatDoor
