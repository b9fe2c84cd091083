/-
  Parts of a proof: UY UZ QH QI.
-/
import Derived.Test.YtdpbgcmfeajigaaGreatDoorD31
set_option linter.unusedSimpArgs false
set_option linter.unusedVariables false
set_option maxHeartbeats 8000000
set_option maxRecDepth 100000
namespace Go.Proofs.YtdpbgcmfeajigaaGreatDoor
open Go.RowKit Go.Shelf
attribute [local go_sem] ak run_store_func Oper.semAt_some
theorem Vd (f:Fm):lu f=aV f:=(QX f).symm
theorem FQ {D:Dom}(f:Fm)(v:Value)(w:World)(h:bI w D v f)(r:Bool)(hr:aV f=r):Calls Tryz.prog 11 #[v] w fun e w'=>e = .returned (.bool r)/\Below w.heap.size w w' :=
 YS r (by rw[Vd,hr]) h
theorem Oa {D:Dom}(f:Fm)(v:Value)(w:World)(h:bI w D v f) :
  Calls Tryz.prog 24 #[v] w fun e w'=>∃A c,e = .returned (.slice A (bD f).length c)/\bP w' bC (bD f) A c/\Below w.heap.size w w':=by
 obtain⟨A,c,rfl,ha⟩:=h;have HA:=hid ha.old;clear ha
 go_enter Tryz.func24,Tryz.ntmps24
 go_upto_region 1 with(fail)
 refine aI fun W hW=>?_;have HB:=hid (show Below w.heap.size w W by rw[hW];go_grown);have HE:=hid (show dF W w.heap.size f A c by show W.heap[w.heap.size]?=_;rw[hW];exact at_new _ _ _ rfl);clear hW;obtain⟨e0,e1,e2,e3,e4,e5⟩:=HE.out.cells;obtain⟨lo,hlo⟩:∃r,aV f=r:=⟨_,rfl⟩;have tY:=hid (FQ f _ W (bI.cells5 (HA.out.keep (Keeps.of_below HB.out fun _ h=>h))) lo hlo);have Lc:=hid hlo;clear hlo;cases lo
 ·have HZ:=hid (show bD f = []by unfold bD;rw[Lc.out];rfl)
  go_wp2_with (go_at_call 11;(with_reducible refine tY.out.mono ?_);rintro e W1 ⟨rfl,hb1⟩;have HB1:=hid hb1;clear hb1)
  go_ret
  exact⟨none,0,by rw[HZ.out];rfl,by rw[HZ.out];exact bP.nil _ _ _ (by omega),au HB.out HB1.out⟩
 ·have HZ:=hid (mD Lc.out)
  have jQ:=hid (show f.size<=400 from(iq Lc.out).1);go_upto_region 3 with(go_at_call 11;(with_reducible refine tY.out.mono ?_);rintro e W1 ⟨rfl,hb1⟩;have HB1:=hid hb1;clear e0 e1 e2 e3 e4 e5;obtain⟨e0,e1,e2,e3,e4,e5⟩:=(HE.out.below hb1).cells;clear hb1)
  have aX:=hid (au HB.out HB1.out);have VP:=hid (J6 f [] none 0 0 [] W1.heap.size _ W1 rfl (vP.nil _ _) (bI.cells5 (((HA.out.keep (Keeps.of_below aX.out fun _ h=>h)).mono fun k hk hl=>hl))) (Nat.le_refl _) (by have:=jQ.out;simp;omega));have HL4:=hid (show(gK [] (aZ f)).length<=400 by have h1:=Qx [] f;have:=jQ.out;simp at h1;omega);go_wp2_with (go_at_call 53;(with_reducible refine VP.out.mono ?_);rintro e W2 ⟨A2,c2,sl2,rfl,hp2,hl2⟩;have HP2:=hid hp2;have HL2:=hid hl2;clear hp2 hl2)
  go_ret
  exact⟨A2,c2,by rw[HZ.out];rfl,by rw[HZ.out];exact HP2.out.rd (by have:=HL4.out;omega),au aX.out (HL2.out.below (fun k hk=>by cases hk) (Nat.le_refl _))⟩
def qc7 (l:List Sg)(f:Fm):Bool:=if f.op=3 then decide (gy l f.name<l.length)&&decide (0<=f.val)&&decide (f.val<(l.getD (gy l f.name) default).size)else true
mutual
def fitAll (l:List Sg):Fm->Bool
 | .mk o n v b L=>qc7 l (.mk o n v b L)&&xA l L
def xA (l:List Sg):List Fm->Bool
 | []=>true
 | f :: L=>fitAll l f&&xA l L
end
theorem Dl {l:List Sg}:∀{L:List Fm},xA l L=true ↔ ∀g,g∈L->fitAll l g=true
 | []=>by simp[xA]
 | f :: L=>by rw[xA,Bool.and_eq_true,Dl];simp
theorem UA (l:List Sg)(f:Fm):fitAll l f=(qc7 l f&&xA l f.args):=by cases f;simp only[fitAll,Fm.args]
end Go.Proofs.YtdpbgcmfeajigaaGreatDoor
namespace Go.Proofs.YtdpbgcmfeajigaaGreatDoor
open Go.RowKit Go.Shelf
attribute [local go_sem] ak run_store_func Oper.semAt_some
end Go.Proofs.YtdpbgcmfeajigaaGreatDoor
namespace Go.Proofs.YtdpbgcmfeajigaaGreatDoor
open Go.RowKit Go.Shelf
attribute [local go_sem] ak run_store_func Oper.semAt_some
def jq (l:List Sg)(b:Bool):Nat->Int
 | 0=>1
 | k+1=>if(l.getD k default).inp=b then jq l b k*(l.getD k default).size else jq l b k
theorem DR (l:List Sg)(b:Bool)(k:Nat):jq l b (k+1)=if(l.getD k default).inp=b then jq l b k*(l.getD k default).size else jq l b k:=rfl
theorem DN (l:List Sg):∀k,k<=l.length->jq l true k*jq l false k=lK (l.take k)
 | 0,_=>rfl
 | k+1,h=>by
  have ih:=DN l k (by omega);rw[aT l default (by omega),pO,<-ih];show _=_*((l.getD k default).size*1);rw[Int.mul_one,DR,DR];cases(l.getD k default).inp
  ·rw[if_neg (by simp),if_pos rfl,Int.mul_assoc]
  ·rw[if_pos rfl,if_neg (by simp),Int.mul_assoc,Int.mul_assoc,Int.mul_comm (l.getD k default).size]
theorem yG {l:List Sg}(h:dM l=true)(b:Bool):∀k,k<=l.length->1<=jq l b k/\jq l b k<=4 ^ k
 | 0,_=>by unfold jq;decide
 | k+1,hk=>by
  have ih:=yG h b k (by omega);have ho:=oK ((fM h).2.2.2 k (by omega))
  have hp:(4:Int) ^ (k+1)=4 ^ k*4:=Int.pow_succ ..
  unfold jq
  split
  ·refine⟨?_,?_⟩
   ·have:=Int.mul_le_mul ih.1 (show(1:Int)<=(l.getD k default).size by omega) (by omega) (by omega)
    omega
   ·rw[hp]
    exact Int.mul_le_mul ih.2 ho.2.2 (by omega) (by omega)
  ·rw[hp];omega
theorem RI {l:List Sg}(h:dM l=true)(b:Bool){k:Nat}(hk:k<=l.length):1<=jq l b k/\jq l b k<=4096:=by
 have h1:=yG h b k hk;have h6:=(fM h).2.1;refine⟨h1.1,Int.le_trans h1.2 ?_⟩;have:k=0\/k=1\/k=2\/k=3\/k=4\/k=5\/k=6:=by omega
 rcases this with rfl|rfl|rfl|rfl|rfl|rfl|rfl <;> decide
def uX (l:List Sg)(b:Bool):Int:=if dM l then jq l b l.length else 0
theorem H8 (l:List Sg):uX l true*uX l false=bZ l:=by
 unfold uX bZ
 split
 ·rw[DN l l.length (Nat.le_refl _),List.take_length]
 ·rfl
theorem YZ {D:Dom}(l:List Sg)(b:Bool)(A:Option Addr)(n c:Nat)(w:World)(hn:n=l.length)(h:lV w D A c l) :
  Calls Tryz.prog 115 #[.slice A n c,.bool b] w fun e w'=>e = .returned (.int .i64 (uX l b))/\Below w.heap.size w w':=by
 have HG:=hid h.old;have HN:=hid hn;have VT:=hid (DL l A c n w hn h);have hnl:n<=140737488355328:=by rw[hn];exact h.len.1
 obtain⟨va,hva⟩:∃r,dM l=r:=⟨_,rfl⟩;have HV:=hid hva;have HZ:=hid (show uX l b=if va then jq l b l.length else 0 by unfold uX;rw[hva]);rw[hva]at VT;obtain⟨z,hz⟩:∃z,uX l b=z:=⟨_,rfl⟩;rw[hz]at HZ⊢;clear h hn hva hz;cases va
 ·have HR:=hid (show z=0 by rw[HZ.out];rfl)
  go_enter Tryz.func115,Tryz.ntmps115
  go_wp2_with (go_at_call 23;(with_reducible refine VT.out.mono ?_);rintro e W1 ⟨rfl,hb1⟩;have HB1:=hid hb1;clear hb1)
  go_ret
  exact⟨by rw[HR.out];rfl,HB1.out⟩
 ·have HR:=hid (show z=jq l b l.length by rw[HZ.out];rfl)
  go_enter Tryz.func115,Tryz.ntmps115
  go_upto_region 3 with(go_at_call 23;(with_reducible refine VT.out.mono ?_);rintro e W1 ⟨rfl,hb1⟩;have HB1:=hid hb1;clear hb1)
  go_wp2_with fail
  go_loopw [5,6] (fun p r wr=>∃(k:Nat) (P:Int),k<=n/\p = .int .i64 P/\r = .int .i64 (k:Int)/\Hid (P=jq l b k)/\Below w.heap.size w wr) (fun _ r _=>n-(intOf r).toNat)
  case atStart=>exact⟨0,1,Nat.zero_le _,rfl,rfl,rfl,by first|exact HB1.out|go_grown⟩
  case round =>
   obtain⟨k,P,hk,rfl,rfl,HP,hbl⟩:=hrel;have bQ:=hid hbl;clear hbl
   by_cases hlt:k<n
   ·have hii:(k:Int)<(n:Int):=by omega
    have hk0:(0:Int)<=(k:Int):=by omega
    have hlf:k<l.length:=by rw[<-HN.out];exact hlt
    obtain⟨bg,og,s,rfl,Zw,HX,g0,g1,g2⟩:=(HG.out.keep (Keeps.of_below bQ.out fun _ h=>h)).get hlf;have OC:=hid (show jq l b (k+1)=if s.inp=b then P*s.size else P by rw[HP.out,<-HX.out];rfl);have hsb:=oK ((fM HV.out).2.2.2 k hlf);have hPb:=RI HV.out b (k:=k) (by omega);rw[HX.out]at hsb;rw[<-HP.out]at hPb
    have hw:IntKind.i64.wrap (P*s.size)=P*s.size:=by
     refine IntWalk.i64_in _ ⟨?_,?_⟩
     ·have:=Int.mul_le_mul hPb.1 (show(1:Int)<=s.size by omega) (by omega) (by omega);omega
     ·have:=Int.mul_le_mul hPb.2 hsb.2.2 (by omega) (by omega);omega
    have fQ:=hid hlt;obtain⟨sb,qfH⟩:∃x,s.inp=x:=⟨_,rfl⟩;rw[qfH]at g1 OC;obtain⟨PS,hPS⟩:∃x,P*s.size=x:=⟨_,rfl⟩;rw[hPS]at hw OC;have HPS:=hid hPS;clear hlt hlf hk HX hsb hPb g0 qfH
    by_cases hbb:sb=b
    ·have qcE:=hid (show jq l b (k+1)=PS by rw[OC.out,if_pos hbb])
     subst hbb;cases sb
     all_goals
      rw[<-hPS]at hw;clear hPS;go_wp2_with fail
      go_roundw
      case rel=>exact⟨k+1,PS,by have:=fQ.out;omega,by first|rw[hw,HPS.out]|rw[HPS.out],by go_num,qcE.out.symm,bQ.out⟩
      case measure=>have:=fQ.out;simp[intOf];omega
    ·have qcE:=hid (show jq l b (k+1)=P by rw[OC.out,if_neg hbb])
     cases sb <;> cases b
     all_goals first
      | exact absurd rfl hbb
      | skip
     all_goals
      clear hbb hPS hw;go_wp2_with fail
      go_roundw
      case rel=>exact⟨k+1,P,by have:=fQ.out;omega,rfl,by go_num,qcE.out.symm,bQ.out⟩
      case measure=>have:=fQ.out;simp[intOf];omega
   ·have hii:¬(k:Int)<(n:Int):=by omega
    have G5:=hid (show P=z by rw[HP.out,HR.out,<-HN.out];congr 1;omega);go_wp2_with fail
    go_ret
    exact⟨by rw[<-G5.out];rfl,bQ.out⟩
theorem YQ (A:Option Addr)(n c:Nat)(w W:World)(p:Int)(hK:Calls Tryz.prog 115 #[.slice A n c,.bool true] W fun e w'=>e = .returned (.int .i64 p)/\Below w.heap.size w w') :
  Calls Tryz.prog 74 #[.slice A n c] W fun e w'=>e = .returned (.int .i64 p)/\Below w.heap.size w w':=by
 have HK:=hid hK;clear hK
 go_enter Tryz.func74,Tryz.ntmps74
 go_wp2_with (go_at_call 115;(with_reducible refine HK.out.mono ?_);rintro e W1 ⟨rfl,hb1⟩;have HB1:=hid hb1;clear hb1)
 go_ret
 exact⟨rfl,HB1.out⟩
theorem Vw (A:Option Addr)(n c:Nat)(w W:World)(p:Int)(hK:Calls Tryz.prog 115 #[.slice A n c,.bool false] W fun e w'=>e = .returned (.int .i64 p)/\Below w.heap.size w w') :
  Calls Tryz.prog 75 #[.slice A n c] W fun e w'=>e = .returned (.int .i64 p)/\Below w.heap.size w w':=by
 have HK:=hid hK;clear hK
 go_enter Tryz.func75,Tryz.ntmps75
 go_wp2_with (go_at_call 115;(with_reducible refine HK.out.mono ?_);rintro e W1 ⟨rfl,hb1⟩;have HB1:=hid hb1;clear hb1)
 go_ret
 exact⟨rfl,HB1.out⟩
theorem Hz {D:Dom}(l:List Sg)(A:Option Addr)(n c:Nat)(w:World)(hn:n=l.length)(h:lV w D A c l) :
  Calls Tryz.prog 26 #[.slice A n c] w fun e w'=>e = .returned (.int .i64 (bZ l))/\Below w.heap.size w w':=by
 have HG:=hid h.old;have HN:=hid hn
 have key:∀(b:Bool) (W:World),Below w.heap.size w W->Calls Tryz.prog 115 #[.slice A n c,.bool b] W fun e w'=>e = .returned (.int .i64 (uX l b))/\Below w.heap.size w w':=fun b W hb=>by
  refine(YZ l b A n c W HN.out (HG.out.keep (Keeps.of_below hb fun _ h=>h))).mono ?_;rintro e w' ⟨rfl,hb'⟩;exact⟨rfl,au hb hb'⟩
 have Si:=hid fun (W:World) (hb:Below w.heap.size w W) (p:Int) (hp:uX l true=p)=>YQ A n c w W p (by rw[<-hp];exact key true W hb);have HOU:=hid fun (W:World) (hb:Below w.heap.size w W) (p:Int) (hp:uX l false=p)=>Vw A n c w W p (by rw[<-hp];exact key false W hb);obtain⟨p,hp⟩:∃p,uX l true=p:=⟨_,rfl⟩;obtain⟨q,hq⟩:∃q,uX l false=q:=⟨_,rfl⟩;have HPQ:=hid (show p*q=bZ l by rw[<-hp,<-hq];exact H8 l)
 have hw:IntKind.i64.wrap (p*q)=p*q:=by
  rw[HPQ.out];refine IntWalk.i64_in _ ?_;unfold bZ
  split
  ·rename_i hv
   have h1:=(fM hv).2.2.1;have h2:=(nP hv l.length (Nat.le_refl _)).lo;rw[List.take_length]at h2;omega
  ·omega
 have HP:=hid hp;have HQ:=hid hq;rw[<-HPQ.out];have HB0:=hid (Below.refl w.heap.size w);clear key h hn hp hq
 go_enter Tryz.func26,Tryz.ntmps26
 go_wp2_with (first
  | (go_at_call 74;(with_reducible refine(Si.out _ HB0.out _ HP.out).mono ?_);rintro e W1 ⟨rfl,hb1⟩;have HB1:=hid hb1;clear hb1)
  | (go_at_call 75;(with_reducible refine(HOU.out _ HB1.out _ HQ.out).mono ?_);rintro e W2 ⟨rfl,hb2⟩;have HB2:=hid hb2;clear hb2))
 go_ret
 exact⟨by first|rfl|(rw[hw];rfl),HB2.out⟩
end Go.Proofs.YtdpbgcmfeajigaaGreatDoor
namespace Go.Proofs.YtdpbgcmfeajigaaGreatDoor
def sA:ByteArray:=⟨#[97]⟩
def sB:ByteArray:=⟨#[98]⟩
def OG (s:ByteArray):Fm := .mk 3 s 1 0 []
def eS (v:Int):Fm := .mk 16 ⟨#[]⟩ v 0 [OG sA,OG sB]
def eY (v u:Int):Fm := .mk 15 ⟨#[]⟩ v 0 [eS u]
def eF (v u:Int):Fm := .mk 6 ⟨#[]⟩ 0 0 [OG sA,eY v u]
def eT:Fm := .mk 15 ⟨#[]⟩ 1 0 [OG sA]
def eL:List Sg := [⟨sA,true,2⟩,⟨sB,false,2⟩]
def eW:lQ:=⟨[],[1]⟩
theorem J3:aV (eF 0 0)=true:=by decide +kernel
theorem qaz:bD (eF 0 0) = [eS 0,eY 0 0]:=by decide +kernel
theorem vX:kC [eS 0,eY 0 0]=true:=by decide +kernel
theorem qau:kC [eT]=true:=by decide +kernel
theorem J4:dM eL=true:=by decide +kernel
theorem Bq:bZ eL=4:=by decide +kernel
theorem SX:Yz eL [0,1]=2/\JA eL [0,1]=true:=by decide +kernel
theorem SY:Yz eL [1,0]=1/\JA eL [1,0]=true:=by decide +kernel
theorem qaA:uK [eS 0,eY 0 0]=0:=by decide +kernel
theorem qav:sZ (lT eL 2) [eS 0,eY 0 0] 0=3:=by decide +kernel
theorem qaw:sZ (lT eL 1) [eS 0,eY 0 0] 3=3:=by decide +kernel
theorem qax:sZ (lT eL 0) [eS 0,eY 0 0] 3=0:=by decide +kernel
theorem qay:sZ (lT eL 0) [eT] 1=0:=by decide +kernel
theorem qe9:qbe [eS 0,eY 0 0] 3 (eF 0 0)=eF 1 1:=by decide +kernel
theorem qcX:fA (lT eL 0) (cu [eS 0,eY 0 0] 3) (eY 0 0)=true:=by decide +kernel
theorem qcY:fA (lT eL 0) (cu [eS 0,eY 0 0] 3) (eS 0)=false:=by decide +kernel
theorem qcZ:fA (lT eL 1) (cu [eS 0,eY 0 0] 1) (eS 0)=true:=by decide +kernel
theorem qat:J9 eL (eF 0 0) eW 0=true:=by decide +kernel
theorem XF:rE 4 eW=true:=by decide +kernel
end Go.Proofs.YtdpbgcmfeajigaaGreatDoor
