/-
  The law's own walk of PastTruth.
-/
import Derived.Test.YtdpbgcmfeajigaaGreatDoorT36
set_option linter.unusedSimpArgs false
set_option linter.unusedVariables false
set_option maxHeartbeats 8000000
set_option maxRecDepth 100000
namespace Go.Proofs.YtdpbgcmfeajigaaGreatDoor
open Go.RowKit Go.Shelf
attribute [local go_sem] ak run_store_func
theorem Rf {l:List Sg}{f g:Fm}{W:jy}{t m i:Nat}{x:Int}{L:List Fm}(hf:FK l f W=true)(hL:dH f=L)(hi:i<L.length)(hg:L.getD i default=g)(hm:yS l L W t=m)(hx:aY W t=x) :
  bG g=true/\allB fC g=true/\g.size<=100/\sO l g/\(∀x,x∈aX g->x∈L)/\fD (jV l x) (bH L m) g=qK l g W t:=by
 obtain⟨h1,_,_,h4,_,_,h7,h8⟩:=FM hf;have hgm:g∈dH f:=by rw[hL,<-hg];exact cO hi
 obtain⟨_,k1,_,k3⟩:=zu hgm;have hp:=(nX h8).1 hgm;have hs:=zB hp;have hin:∀y,y∈aX g->y∈dH f:=fun y hy=>(nX h8).2 (DV hp hy);refine⟨k1,k3,by omega,row_of g (jA k1) (by omega) (xX h4 hp),by rw[<-hL];exact hin,?_⟩;rw[<-hm,<-hx,<-hL];exact Gj h8 h4 (nO h7).2.1 t k1 k3 (xX h4 hp) hin
theorem RF {l:List Sg}{f:Fm}{W:jy}{t m:Nat}{x:Int}{L:List Fm}(hf:FK l f W=true)(hL:dH f=L)(hp:allB fC f=true)(hm:yS l L W t=m)(hx:aY W t=x) :
  bG f=true/\f.size<=100/\sO l f/\(∀x,x∈aX f->x∈L)/\fD (jV l x) (bH L m) f=qK l f W t:=by
 obtain⟨h1,_,_,h4,_,_,h7,h8⟩:=FM hf;have hin:∀y,y∈aX f->y∈dH f:=fun y hy=>(nX h8).2 hy;refine⟨h8,by omega,row_of f (jA h8) (by omega) h4,by rw[<-hL];exact hin,?_⟩;rw[<-hm,<-hx,<-hL];exact Gj h8 h4 (nO h7).2.1 t h8 hp h4 hin
theorem H8 {D E F:Dom}(l:List Sg)(AS:Option Addr)(cS n:Nat)(f:Fm)(v u:Value)(W:jy)(z:Int)(w:World)(hn:n=l.length)(hG:mG w E AS cS l)(hf:bI w D v f)(hW:EY w F u W)(hz0:0<=z)(hz1:z<=255)(hg:GF w)(hk:GK w) :
  Calls Tryz.prog 4 #[.slice AS n cS,v,u,.int .u8 z] w fun e w'=>e = .returned (.bool true)/\Below w.heap.size w w':=by
 obtain⟨AF,cF,rfl,hfa⟩:=hf;obtain⟨As,cs,Al,cl,rfl,hs,hl⟩:=hW;have HN:=hid hn;have WQ:=hid hn;have HGL:=hid hG.old;have HF:=hid hfa.old;have HS:=hid hs.old;have HL:=hid hl.old;have HG:=hid hg;have HK:=hid hk;have HZ:=hid (And.intro hz0 hz1);clear hn hG hfa hs hl hg hk
 go_enter Tryz.func4,Tryz.ntmps4
 go_upto_region 1 with(fail)
 refine aF fun U hU=>?_;have HB:=hid (show Below w.heap.size w U by rw[hU];go_grown);have HO:=hid (show OB U w.heap.size f.op f.name f.val f.bound AF f.args.length cF by show U.heap[_]?=_;rw[hU,aQ _ _ _ (by simp)];exact at_new _ _ _ rfl);have HW:=hid (show kD U (w.heap.size+1) W As cs Al cl by show U.heap[_]?=_;rw[hU];exact at_new _ _ _ (by simp));clear hU;have Sv:=hid (UM U (HG.out.below HB.out HG.out.pos) (HK.out.below HB.out HK.out.pos));go_upto_region 2 with(go_at_call 8;(with_reducible refine Sv.out.mono ?_);rintro e V ⟨rfl,jU⟩;have iG:=hid jU;clear jU)
 have aT:=hid (au HB.out iG.out);have SH:=hid (HO.out.below iG.out);have ZY:=hid (HW.out.below iG.out)
 have HX:Hid (∀X:World,Below V.heap.size V X->bI X aZ (.agg #[.int .i64 f.op,.string f.name,.int .i64 f.val,.int .i64 f.bound,.slice AF f.args.length cF]) f/\EY X aZ (.agg #[.slice As W.stem.length cs,.slice Al W.loop.length cl]) W/\mG X aZ AS cS l/\GF X/\GK X):=hid fun X hb =>
  ⟨⟨AF,cF,rfl,HF.out.any (au aT.out hb)⟩,⟨As,cs,Al,cl,rfl,HS.out.any (au aT.out hb),HL.out.any (au aT.out hb)⟩,HGL.out.any (au aT.out hb),HG.out.below (au aT.out hb) HG.out.pos,HK.out.below (au aT.out hb) HK.out.pos⟩
 clear HO HW Sv iG HB HF HS HL HG HK HGL;obtain⟨t0,t1,t2,t3,t4,t5⟩:=SH.out.cells;obtain⟨l0,l1,l2⟩:=ZY.out.cells;obtain⟨r0,hr0⟩:∃r,FK l f W=r:=⟨_,rfl⟩;have yK:=hid (XK (D:=aZ) (E:=aZ) (F:=aZ) l AS cS n f _ _ W V HN.out (HX.out V (Below.refl _ _)).2.2.1 (HX.out V (Below.refl _ _)).1 (HX.out V (Below.refl _ _)).2.1 r0 hr0);have HR0:=hid hr0;clear hr0;cases r0
 ·go_wp2_with (go_at_call 17;(with_reducible refine yK.out.mono ?_);rintro e V2 ⟨rfl,hb2⟩;have HB2:=hid hb2;clear hb2)
  go_ret
  exact⟨rfl,au aT.out HB2.out⟩
 have Bq:=hid (FM HR0.out)
 have ZH:Hid (∀(X:World),Below V.heap.size V X->Calls Tryz.prog 10 #[.agg #[.int .i64 f.op,.string f.name,.int .i64 f.val,.int .i64 f.bound,.slice AF f.args.length cF]] X fun e w'=>∃A c,e = .returned (.slice A (dH f).length c)/\bV w' (Cl w') (dH f) A c/\Below V.heap.size V w'):=hid fun X hb=>by
  obtain⟨hx1,hx2,hx3,hx4,hx5⟩:=HX.out X hb;refine(Jk (D:=aZ) f _ X hx1 hx4 hx5).mono ?_;rintro e w' ⟨A,c,rfl,ha,hb'⟩;exact⟨A,c,rfl,ha.mono fun _ h _=>h.2,au hb hb'⟩
 obtain⟨L,hL⟩:∃L,dH f=L:=⟨_,rfl⟩;have HL:=hid hL;have TY:=hid (show L.length<=8 by rw[<-hL];exact Bq.out.2.2.2.2.1);rw[hL]at ZH;clear hL;have hLb:=TY.out
 go_upto_region 5 with(first
  | (go_at_call 17;(with_reducible refine yK.out.mono ?_);rintro e V2 ⟨rfl,hb2⟩;clear t0 t1 t2 t3 t4 t5 l0 l1 l2;obtain⟨t0,t1,t2,t3,t4,t5⟩:=(SH.out.below hb2).cells;obtain⟨l0,l1,l2⟩:=(ZY.out.below hb2).cells;have HB2:=hid hb2;clear hb2)
  | (go_at_call 10;(with_reducible refine(ZH.out _ HB2.out).mono ?_);rintro e V3 ⟨AN,cN,rfl,ha,hb3⟩;clear t0 t1 t2 t3 t4 t5 l0 l1 l2;obtain⟨t0,t1,t2,t3,t4,t5⟩:=(SH.out.below hb3).cells;obtain⟨l0,l1,l2⟩:=(ZY.out.below hb3).cells;have HN:=hid ha;have HB3:=hid hb3;clear ha hb3))
 have JV:=hid (show kY L=true by rw[<-HL.out];exact NR Bq.out.2.2.2.2.1);have HST:Hid (Calls Tryz.prog 18 #[.slice AN L.length cN] V3 fun e w'=>e = .returned (.int .i64 (sD L:Int))/\Below V3.heap.size V3 w'):=hid (JC L AN cN L.length V3 rfl HN.out (fun _ h=>h) JV.out (HX.out V3 HB3.out).2.2.2.1 (HX.out V3 HB3.out).2.2.2.2);obtain⟨m0,hm0⟩:∃m,sD L=m:=⟨_,rfl⟩;rw[hm0]at HST;have HM0:=hid hm0;clear hm0;go_upto_region 6 with(go_at_call 18;(with_reducible refine HST.out.mono ?_);rintro e V4 ⟨rfl,hb4⟩;clear t0 t1 t2 t3 t4 t5 l0 l1 l2;obtain⟨t0,t1,t2,t3,t4,t5⟩:=(SH.out.below (au HB3.out hb4)).cells;obtain⟨l0,l1,l2⟩:=(ZY.out.below (au HB3.out hb4)).cells;have HB4:=hid hb4;clear hb4)
 have dO:=hid (au HB3.out HB4.out);have HNX:=hid (HN.out.aW HB4.out);clear HN HST ZH yK HB2 HB3 HB4;have hcv:=qag z HZ.out.1 HZ.out.2;have qdg:(0:Int)<=z.tmod 101:=Int.tmod_nonneg _ HZ.out.1;have qdh:z.tmod 101<101:=Int.tmod_lt_of_pos _ (by omega);have hwt:IntKind.i64.wrap (z.tmod 101)=z.tmod 101:=IntWalk.i64_in _ (by omega);go_upto_region 7 with(fail)
 rw[Int.tmod_eq_emod_of_nonneg HZ.out.1]at qdg qdh;obtain⟨at',hat⟩:∃a:Nat,z % 101=(a:Int):=⟨(z % 101).toNat,by omega⟩;rw[hat]at qdg qdh⊢;have HAT:=hid (show at'<=100 by omega);clear hwt hcv hat qdg qdh;go_wp2_with fail
 go_loopw [11,13] (fun r q wr=>∃t:Nat,t<=at'+1/\q = .int .i64 (t:Int)/\r = .int .i64 (yS l L W t:Int)/\Below V4.heap.size V4 wr) (fun _ q _=>at'+1-(intOf q).toNat)
 case atStart=>exact⟨0,Nat.zero_le _,rfl,by rw[<-HM0.out];rfl,by first|exact Below.refl _ _|go_grown⟩
 case round =>
  obtain⟨t,ht,rfl,rfl,hbl⟩:=hrel;have bJ:=hid hbl;have HAT2:=HAT.out;clear hbl
  by_cases hlt:t<=at'
  ·have hii:(t:Int)<=(at':Int):=by omega
   have hi0:(0:Int)<=(t:Int):=by omega
   have dY:=hid hlt;have kQ:=hid (HX.out wr (au dO.out bJ.out));have HNR:=hid (HNX.out.aW bJ.out);have HXB:=hid (Hu Bq.out.2.2.2.2.2.1 t);have qdR:Hid (Calls Tryz.prog 19 #[.agg #[.slice As W.stem.length cs,.slice Al W.loop.length cl],.int .i64 (t:Int)] wr fun e w'=>e = .returned (.int .i64 (aY W t))/\Below wr.heap.size wr w'):=hid (qa8 W t _ wr kQ.out.2.1 (by omega) Bq.out.2.2.2.2.2.2.1);have y:=(ZY.out.below (au dO.out bJ.out)).cells;obtain⟨m,hm⟩:∃m,yS l L W t=m:=⟨_,rfl⟩;obtain⟨x,hx⟩:∃x,aY W t=x:=⟨_,rfl⟩;have HM:=hid hm;have WO:=hid hx;rw[hx]at qdR HXB;rw[hm];clear hm hx;obtain⟨l0,l1,l2⟩:=y
   go_upto_region 11 with(go_at_call 19;(with_reducible refine qdR.out.mono ?_);rintro e V5 ⟨rfl,hb5⟩;have Io:=hid hb5;clear hb5)
   have HBQ:=hid (au dO.out (au bJ.out Io.out));have JX:=hid (HNR.out.aW Io.out);have WB:=hid (au bJ.out Io.out)
   have uF:Hid (∀W':World,Below V5.heap.size V5 W'->Calls Tryz.prog 22 #[.slice AS n cS,.slice AN L.length cN,.int .i64 (m:Int),.int .i64 x] W' fun e w'=>e = .returned (.int .i64 (yS l L W (t+1):Int))/\Below V5.heap.size V5 w'):=hid fun W' hb=>by
    obtain⟨hx1,hx2,hx3,hx4,hx5⟩:=HX.out W' (au HBQ.out hb);refine(NI l AS cS n L AN cN L.length m x W' WQ.out hx3 rfl (JX.out.aW hb) JV.out hx4 hx5 (by rw[<-HM.out];exact F9 l L W t) HXB.out.1 HXB.out.2).mono ?_;rintro e w' ⟨rfl,hb'⟩;refine⟨?_,au hb hb'⟩;show _=Ending.returned (.int .i64 (rG (jV l (aY W t)) L (yS l L W t):Int));rw[WO.out,HM.out]
   have l0:=(ZY.out.below HBQ.out).cells;obtain⟨l0,l1,l2⟩:=l0;have t0:=(SH.out.below HBQ.out).cells;obtain⟨t0,t1,t2,t3,t4,t5⟩:=t0;have hw1:IntKind.i64.wrap ((t:Int)+1)=(t:Int)+1:=IntWalk.i64_in _ (by omega)
   rcases(show t=at'\/(t≠at'/\t<3)\/(t≠at'/\¬t<3)by omega)with hc|hc|hc
   rotate_left 2
   ·have hc1:¬(t:Int)=(at':Int):=by omega
    have hc2:¬(t:Int)<3:=by omega
    go_upto_region 19 with(fail)
    go_wp2_with (go_at_call 22;(with_reducible refine(uF.out _ (Below.refl _ _)).mono ?_);rintro e V6 ⟨rfl,hb6⟩;have Bl:=hid hb6;clear hb6)
    go_roundw
    case rel=>exact⟨t+1,by have:=dY.out;omega,by go_num,rfl,au WB.out Bl.out⟩
    case measure=>have:=dY.out;simp[intOf];omega
   all_goals first
    | (subst hc;go_upto_region 13 with(fail))
    | (have hc1:¬(t:Int)=(at':Int):=(by omega);have hc2:(t:Int)<3:=(by omega);go_upto_region 13 with(fail))
   all_goals
    go_loopw [15] (fun r wr2=>∃k:Nat,k<=L.length/\r = .int .i64 (k:Int)/\Below V5.heap.size V5 wr2) (fun r _=>L.length-(intOf r).toNat)
    case atStart=>exact⟨0,Nat.zero_le _,rfl,by first|exact Below.refl _ _|go_grown⟩
    case round =>
     obtain⟨i,hi,rfl,hbl⟩:=hrel;have Zh:=hid hbl;clear hbl;have hLb:=TY.out
     by_cases hlt2:i<L.length
     ·have hjj:(i:Int)<(L.length:Int):=by omega
      have hj0:(0:Int)<=(i:Int):=by omega
      have hlc:=JX.out.len.2.1;obtain⟨b1,o1,A',c',g,rfl,HGX,hgf⟩:=(JX.out.aW Zh.out).get hlt2;have Ew:=hid (Rf HR0.out HL.out hlt2 HGX.out HM.out WO.out);have qeo:=hid hlt2;have wo:=hid hgf
      have HXG:Hid (∀W':World,Below wr.heap.size wr W'->dR W' aZ b1 (o1+i*5) g A' c'/\bV W' (Cl W') L (some ⟨b1,o1,none⟩) cN):=hid fun W' hb =>
       ⟨(wo.out.old.keep (Keeps.of_below hb fun _ h=>h)).mono fun _ _ _=>trivial,JX.out.aW (au Zh.out hb)⟩
      have aI:Hid (∀W':World,Below wr.heap.size wr W'->(W'.cell? ⟨b1,o1+i*5,none⟩=some (.int .i64 g.op)/\W'.cell? ⟨b1,o1+i*5+1,none⟩=some (.string g.name)/\W'.cell? ⟨b1,o1+i*5+2,none⟩=some (.int .i64 g.val)/\W'.cell? ⟨b1,o1+i*5+3,none⟩=some (.int .i64 g.bound)/\W'.cell? ⟨b1,o1+i*5+4,none⟩=some (.slice A' g.args.length c'))/\W'.cell? ⟨w.heap.size+1,0,none⟩=some (.slice As W.stem.length cs)/\W'.cell? ⟨w.heap.size+1,1,none⟩=some (.slice Al W.loop.length cl)):=hid fun W' hb=>by
       have hq:=(HXG.out W' hb).1;obtain⟨q0,q1,_⟩:=(ZY.out.below (au HBQ.out (au Zh.out hb))).cells;exact⟨⟨hq.c0,hq.c1,hq.c2,hq.c3,hq.c4⟩,q0,q1⟩
      obtain⟨r,hr⟩:∃r,qK l g W t=r:=⟨_,rfl⟩;have HR:=hid hr;clear hr
      have JU:Hid (∀W':World,Below wr.heap.size wr W'->Calls Tryz.prog 20 #[.slice AS n cS,.slice (some ⟨b1,o1,none⟩) L.length cN,.int .i64 (m:Int),.int .i64 x,.agg #[.int .i64 g.op,.string g.name,.int .i64 g.val,.int .i64 g.bound,.slice A' g.args.length c']] W' fun e w'=>e = .returned (.bool r)/\Below wr.heap.size wr w'):=hid fun W' hb=>by
       obtain⟨hx1,hx2,hx3,hx4,hx5⟩:=HX.out W' (au HBQ.out (au Zh.out hb));refine(KN l AS cS n L _ cN L.length m x g _ W' WQ.out hx3 rfl (HXG.out W' hb).2 JV.out hx4 hx5 (by rw[<-HM.out];exact F9 l L W t) HXB.out.1 HXB.out.2 (bI.cells5 (HXG.out W' hb).1.args) Ew.out.1 Ew.out.2.1 Ew.out.2.2.2.2.1).mono ?_;rintro e w' ⟨rfl,hb'⟩;rw[Ew.out.2.2.2.2.2,HR.out];exact⟨rfl,au hb hb'⟩
      have HC2:Hid (∀W':World,Below wr.heap.size wr W'->Calls Tryz.prog 21 #[.slice AS n cS,.agg #[.int .i64 g.op,.string g.name,.int .i64 g.val,.int .i64 g.bound,.slice A' g.args.length c'],.agg #[.slice As W.stem.length cs,.slice Al W.loop.length cl],.int .i64 (t:Int)] W' fun e w'=>e = .returned (.bool r)/\Below wr.heap.size wr w'):=hid fun W' hb=>by
       obtain⟨hx1,hx2,hx3,hx4,hx5⟩:=HX.out W' (au HBQ.out (au Zh.out hb));have ht1:=dY.out;have ht2:=HAT.out;refine(Cc l AS cS n g W _ _ t W' WQ.out hx3 (bI.cells5 (HXG.out W' hb).1.args) hx2 hx4 hx5 Ew.out.2.2.2.1 Ew.out.1 Bq.out.2.2.1 Ew.out.2.2.1 Bq.out.2.2.2.2.2.1 (by omega)).mono ?_;rintro e w' ⟨rfl,hb'⟩;rw[HR.out];exact⟨rfl,au hb hb'⟩
      have hw2:IntKind.i64.wrap ((i:Int)+1)=(i:Int)+1:=IntWalk.i64_in _ (by omega);have HI0:=hid (Below.refl wr.heap.size wr);have HI1:=hid (show Below wr.heap.size wr wr.drew from(Below.refl wr.heap.size wr).drew);have HI2:=hid (show∀i,Below wr.heap.size wr (wr.drewN i)from fun i=>below_drewN (Below.refl wr.heap.size wr) i);obtain⟨⟨p0,p1,p2,p3,p4⟩,p5,p6⟩:=aI.out wr (Below.refl _ _);have zb:b1<wr.heap.size:=hgf.lt;clear hgf HGX hlt2 hlc l0 l1 l2 t0 t1 t2 t3 t4 t5;go_upto_region 15 with(fail)
      go_region_held3 (fun W':World=>(W'.cell? ⟨b1,o1+i*5,none⟩=some (.int .i64 g.op)/\W'.cell? ⟨b1,o1+i*5+1,none⟩=some (.string g.name)/\W'.cell? ⟨b1,o1+i*5+2,none⟩=some (.int .i64 g.val)/\W'.cell? ⟨b1,o1+i*5+3,none⟩=some (.int .i64 g.bound)/\W'.cell? ⟨b1,o1+i*5+4,none⟩=some (.slice A' g.args.length c'))/\W'.cell? ⟨w.heap.size+1,0,none⟩=some (.slice As W.stem.length cs)/\W'.cell? ⟨w.heap.size+1,1,none⟩=some (.slice Al W.loop.length cl))
       (first|(with_reducible exact aI.out _ hI)|(go_keep;done))
       (first
        | (go_at_call 20;(with_reducible refine(JU.out _ (by first|exact hI|exact HI0.out|exact HI1.out|exact HI2.out _)).mono ?_);rintro e W9 ⟨rfl,XU⟩;(try clear hI);have hI:=XU;clear XU)
        | (go_at_call 21;(with_reducible refine(HC2.out _ (by first|exact hI|exact HI0.out|exact HI1.out|exact HI2.out _)).mono ?_);rintro e W9 ⟨rfl,XU⟩;(try clear hI);have hI:=XU;clear XU))
      all_goals
       have HI:=hid hI;clear hI p0 p1 p2 p3 p4 p5 p6;go_wp2_with fail
       go_roundw
       case rel=>exact⟨i+1,by have:=qeo.out;omega,by go_num,au Zh.out HI.out⟩
       case measure=>have:=qeo.out;simp[intOf];omega
     ·have hjj:¬(i:Int)<(L.length:Int):=by omega
      clear hlt2;have dG:=hid (au HBQ.out Zh.out)
      have aI:Hid (∀W':World,Below wr.heap.size wr W'->(W'.cell? ⟨w.heap.size,0,none⟩=some (.int .i64 f.op)/\W'.cell? ⟨w.heap.size,1,none⟩=some (.string f.name)/\W'.cell? ⟨w.heap.size,2,none⟩=some (.int .i64 f.val)/\W'.cell? ⟨w.heap.size,3,none⟩=some (.int .i64 f.bound)/\W'.cell? ⟨w.heap.size,4,none⟩=some (.slice AF f.args.length cF))/\W'.cell? ⟨w.heap.size+1,0,none⟩=some (.slice As W.stem.length cs)/\W'.cell? ⟨w.heap.size+1,1,none⟩=some (.slice Al W.loop.length cl)):=hid fun W' hb=>by
       obtain⟨q0,q1,_⟩:=(ZY.out.below (au dG.out hb)).cells;obtain⟨a0,a1,a2,a3,a4,_⟩:=(SH.out.below (au dG.out hb)).cells;exact⟨⟨a0,a1,a2,a3,a4⟩,q0,q1⟩
      obtain⟨pf,hpf⟩:∃r,allB fC f=r:=⟨_,rfl⟩;have Ir:=hid hpf
      have HCP:Hid (∀W':World,Below wr.heap.size wr W'->Calls Tryz.prog 12 #[.agg #[.int .i64 f.op,.string f.name,.int .i64 f.val,.int .i64 f.bound,.slice AF f.args.length cF]] W' fun e w'=>e = .returned (.bool pf)/\Below wr.heap.size wr w'):=hid fun W' hb=>by
       obtain⟨hx1,hx2,hx3,hx4,hx5⟩:=HX.out W' (au dG.out hb);refine(o8 f _ W' hx1 hx4 (by have:=(iY Bq.out.2.2.2.2.2.2.2).2.1;omega)).mono ?_;rintro e w' ⟨rfl,hb'⟩;rw[Ir.out];exact⟨rfl,au hb hb'⟩
      clear hpf;have HNQ2:=hid (JX.out.aW Zh.out);have HI0:=hid (Below.refl wr.heap.size wr);have HI1:=hid (show Below wr.heap.size wr wr.drew from(Below.refl wr.heap.size wr).drew);have HI2:=hid (show∀i,Below wr.heap.size wr (wr.drewN i)from fun i=>below_drewN (Below.refl wr.heap.size wr) i);clear t0 t1 t2 t3 t4 t5 l0 l1 l2;obtain⟨⟨p0,p1,p2,p3,p4⟩,p5,p6⟩:=aI.out wr (Below.refl _ _);have zb5:=(SH.out.below dG.out).cells.2.2.2.2.2;have zb6:=(ZY.out.below dG.out).cells.2.2;cases pf
      ·go_upto_region 17 with(fail)
       refine wp_region_held_drew (S:=fun W':World=>(W'.cell? ⟨w.heap.size,0,none⟩=some (.int .i64 f.op)/\W'.cell? ⟨w.heap.size,1,none⟩=some (.string f.name)/\W'.cell? ⟨w.heap.size,2,none⟩=some (.int .i64 f.val)/\W'.cell? ⟨w.heap.size,3,none⟩=some (.int .i64 f.bound)/\W'.cell? ⟨w.heap.size,4,none⟩=some (.slice AF f.args.length cF))/\W'.cell? ⟨w.heap.size+1,0,none⟩=some (.slice As W.stem.length cs)/\W'.cell? ⟨w.heap.size+1,1,none⟩=some (.slice Al W.loop.length cl)) (by kernel_rfl) ⟨⟨p0,p1,p2,p3,p4⟩,p5,p6⟩ (fun hHeld=>?_);refine fH 0 ?_ rfl (by kernel_rfl) (fun _ _ _ h=>h) ?_ (by assumption) ?_
       rotate_left
       ·intro w hSw;(try dsimp only at hSw);obtain⟨⟨s0,s1,s2,s3,s4⟩,s5,s6⟩:=hSw;go_simp;(try(with_reducible rfl))
       try simp only[Act.put,bf,bn,bC]
       refine lX 1 (by kernel_rfl) rfl fun K hK=>?_
       go_simp
       (go_at_call 12;(with_reducible refine(HCP.out _ (by first|exact HI0.out|exact HI1.out|exact HI2.out _)).mono ?_);rintro e W7 ⟨rfl,hI⟩;have HJ:=hid hI;clear hI)
       go_wp2_with fail
       refine hK.out _ _ ?_ (fun hHeld=>?_)
       ·exact aI.out _ HJ.out
       clear hK K
       try simp only[Act.put,bf,bn,bC]
       refine fH 2 ?_ rfl (by kernel_rfl) (fun _ _ _ h=>h) ?_ (by assumption) ?_
       rotate_left
       ·intro w hSw;(try dsimp only at hSw);obtain⟨⟨s0,s1,s2,s3,s4⟩,s5,s6⟩:=hSw;go_simp;(try(with_reducible rfl))
       try simp only[Act.put,bf,bn,bC]
       refine mg 3 rfl (by kernel_rfl) (fun _ _ _ h=>h) (by assumption) ?_
       try simp only[Act.put,bf,bn,bC]
       refine mg 4 rfl (by kernel_rfl) (fun _ _ _ h=>h) (by assumption) ?_
       try simp only[Act.put,bf,bn,bC]
       refine mg 5 rfl (by kernel_rfl) (fun _ _ _ h=>h) (by assumption) ?_
       try simp only[Act.put,bf,bn,bC]
       refine mg 6 rfl (by kernel_rfl) (fun _ _ _ h=>h) (by assumption) ?_
       try simp only[Act.put,bf,bn,bC]
       refine mg 7 rfl (by kernel_rfl) (fun _ _ _ h=>h) (by assumption) ?_
       try simp only[Act.put,bf,bn,bC]
       refine mg 8 rfl (by kernel_rfl) (fun _ _ _ h=>h) (by assumption) ?_
       try simp only[Act.put,bf,bn,bC]
       refine mg 9 rfl (by kernel_rfl) (fun _ _ _ h=>h) (by assumption) ?_
       try simp only[Act.put,bf,bn,bC]
       refine mg 10 rfl (by kernel_rfl) (fun _ _ _ h=>h) (by assumption) ?_
       try simp only[Act.put,bf,bn,bC]
       refine mg 11 rfl (by kernel_rfl) (fun _ _ _ h=>h) (by assumption) ?_
       try simp only[Act.put,bf,bn,bC]
       refine mg 12 rfl (by kernel_rfl) (fun _ _ _ h=>h) (by assumption) ?_
       try simp only[Act.put,bf,bn,bC]
       refine mg 13 rfl (by kernel_rfl) (fun _ _ _ h=>h) (by assumption) ?_
       try simp only[Act.put,bf,bn,bC]
       refine mg 14 rfl (by kernel_rfl) (fun _ _ _ h=>h) (by assumption) ?_
       try simp only[Act.put,bf,bn,bC]
       refine lX 15 (by kernel_rfl) rfl fun K hK=>?_
       go_simp
       refine hK.out _ _ ?_ (fun hHeld=>?_)
       ·exact aI.out _ HJ.out
       clear hK K
       try simp only[Act.put,bf,bn,bC]
       refine wpAnyH_done (by kernel_rfl) ?_ _;have HI:=hid (au Zh.out HJ.out);clear p0 p1 p2 p3 p4 p5 p6 zb5 zb6;go_wp2_with (go_at_call 22;(with_reducible refine(uF.out _ HI.out).mono ?_);rintro e V6 ⟨rfl,hb6⟩;have Bl:=hid hb6;clear hb6)
       go_roundw
       case rel=>exact⟨t+1,by have:=dY.out;omega,by go_num,by rfl,au WB.out Bl.out⟩
       case measure=>have:=dY.out;simp[intOf] <;> omega
      ·obtain⟨r,hr⟩:∃r,qK l f W t=r:=⟨_,rfl⟩
       have HR:=hid hr;clear hr;have Ew:=hid (RF HR0.out HL.out Ir.out HM.out WO.out)
       have JU:Hid (∀W':World,Below wr.heap.size wr W'->Calls Tryz.prog 20 #[.slice AS n cS,.slice AN L.length cN,.int .i64 (m:Int),.int .i64 x,.agg #[.int .i64 f.op,.string f.name,.int .i64 f.val,.int .i64 f.bound,.slice AF f.args.length cF]] W' fun e w'=>e = .returned (.bool r)/\Below wr.heap.size wr w'):=hid fun W' hb=>by
        obtain⟨hx1,hx2,hx3,hx4,hx5⟩:=HX.out W' (au dG.out hb);refine(KN l AS cS n L _ cN L.length m x f _ W' WQ.out hx3 rfl (HNQ2.out.aW hb) JV.out hx4 hx5 (by rw[<-HM.out];exact F9 l L W t) HXB.out.1 HXB.out.2 hx1 Ew.out.1 Ir.out Ew.out.2.2.2.1).mono ?_;rintro e w' ⟨rfl,hb'⟩;rw[Ew.out.2.2.2.2,HR.out];exact⟨rfl,au hb hb'⟩
       have HC2:Hid (∀W':World,Below wr.heap.size wr W'->Calls Tryz.prog 21 #[.slice AS n cS,.agg #[.int .i64 f.op,.string f.name,.int .i64 f.val,.int .i64 f.bound,.slice AF f.args.length cF],.agg #[.slice As W.stem.length cs,.slice Al W.loop.length cl],.int .i64 (t:Int)] W' fun e w'=>e = .returned (.bool r)/\Below wr.heap.size wr w'):=hid fun W' hb=>by
        obtain⟨hx1,hx2,hx3,hx4,hx5⟩:=HX.out W' (au dG.out hb);have ht1:=dY.out;have ht2:=HAT.out;refine(Cc l AS cS n f W _ _ t W' WQ.out hx3 hx1 hx2 hx4 hx5 Ew.out.2.2.1 Ew.out.1 Bq.out.2.2.1 Ew.out.2.1 Bq.out.2.2.2.2.2.1 (by omega)).mono ?_;rintro e w' ⟨rfl,hb'⟩;rw[HR.out];exact⟨rfl,au hb hb'⟩
       go_upto_region 17 with(fail)
       go_region_held3 (fun W':World=>(W'.cell? ⟨w.heap.size,0,none⟩=some (.int .i64 f.op)/\W'.cell? ⟨w.heap.size,1,none⟩=some (.string f.name)/\W'.cell? ⟨w.heap.size,2,none⟩=some (.int .i64 f.val)/\W'.cell? ⟨w.heap.size,3,none⟩=some (.int .i64 f.bound)/\W'.cell? ⟨w.heap.size,4,none⟩=some (.slice AF f.args.length cF))/\W'.cell? ⟨w.heap.size+1,0,none⟩=some (.slice As W.stem.length cs)/\W'.cell? ⟨w.heap.size+1,1,none⟩=some (.slice Al W.loop.length cl))
        (first|(with_reducible exact aI.out _ hI)|(go_keep;done))
        (first
         | (go_at_call 12;(with_reducible refine(HCP.out _ (by first|exact HI0.out|exact HI1.out|exact HI2.out _)).mono ?_);rintro e W9 ⟨rfl,hI⟩)
         | (go_at_call 20;(with_reducible refine(JU.out _ hI).mono ?_);rintro e W9 ⟨rfl,XU⟩;clear hI;have hI:=XU;clear XU)
         | (go_at_call 21;(with_reducible refine(HC2.out _ hI).mono ?_);rintro e W9 ⟨rfl,XU⟩;clear hI;have hI:=XU;clear XU))
       all_goals
        have HI:=hid (au Zh.out hI);clear hI p0 p1 p2 p3 p4 p5 p6 zb5 zb6;go_wp2_with (go_at_call 22;(with_reducible refine(uF.out _ HI.out).mono ?_);rintro e V6 ⟨rfl,hb6⟩;have Bl:=hid hb6;clear hb6)
        go_roundw
        case rel=>exact⟨t+1,by have:=dY.out;omega,by go_num,by rfl,au WB.out Bl.out⟩
        case measure=>have:=dY.out;simp[intOf] <;> omega
  ·have hii:¬(t:Int)<=(at':Int):=by omega
   go_wp2_with fail
   go_ret
   exact⟨rfl,au aT.out (au dO.out bJ.out)⟩
end Go.Proofs.YtdpbgcmfeajigaaGreatDoor
