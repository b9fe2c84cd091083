/-
  Parts of a proof: QN QP QS QT QX.
-/
import Derived.Test.YtdpbgcmfeajigaaGreatDoorP34
import Derived.ProofKit
import Derived.SizedLaws
import Derived.Deep.Slices
import Derived.Deep.Matrix
import Derived.Deep.Fields
import Derived.Lib.SmallJoins
import Derived.Test.YtdpbgcmfeajigaaGreatDoorP24
set_option linter.unusedSimpArgs false
set_option linter.unusedVariables false
set_option maxHeartbeats 8000000
set_option maxRecDepth 100000
namespace Go.Proofs.YtdpbgcmfeajigaaGreatDoor
noncomputable def before (l:List Sg)(W:lS)(x:Fm):Nat->Bool
 | 0=>decide (x.val=1)
 | t+1=>qgz (LQ l W) (pF x) t
open Go.ChangeShapes Go.WideShapes Go.RowKit Go.Deep Go.Joins
section
variable {H:Type}{enc:TypeId×Value->H}{w:World}{base:Nat}{held:Bool}
end
theorem Sr (nodes:List Fm)(m:Nat)(f:Fm):nN (qc nodes m f)=nN f:=by
 unfold nN Ae qc;rw[Dz (Qp _ f false)]
theorem Zp {f:Fm}(h:bf f=true)(m:Nat):(aV (qc (aV f) m f)).length<=(aV f).length:=(F6 h fun x _=>J3 ..).1
theorem qbJ {f:Fm}(h:bf f=true){m:Nat}(hl:(aV (qc (aV f) m f)).length=(aV f).length):aV (qc (aV f) m f)=(aV f).map (bD (vZ (aV f) m)):=(F6 h fun x _=>J3 ..).2 hl
theorem Sm {f:Fm}(h:bf f=true)(m:Nat):bf (qc (aV f) m f)=true:=ES h fun x _=>J3 ..
theorem VP (nodes:List Fm)(m:Nat)(f:Fm):(qc nodes m f).size=f.size:=Iw _ f
theorem VO (nodes:List Fm)(m:Nat)(f:Fm):allB dL (qc nodes m f)=allB dL f:=Uy f
end Go.Proofs.YtdpbgcmfeajigaaGreatDoor
namespace Go.Proofs.YtdpbgcmfeajigaaGreatDoor
open Go.RowKit Go.Shelf
attribute [local go_sem] ak run_store_func
theorem NZ {l:List Sg}(h:dM l=true):1<=cO l/\cO l<=64:=by
 have h1:=(nT h l.length (Nat.le_refl _)).lo;rw[List.take_length]at h1;have h2:=(fO h).2.2.1;unfold cO;rw[if_pos h];exact⟨h1,h2⟩
theorem qaR {p n i:Nat}(hp:p=2 ^ i)(hi:i<=8):1<=p/\p<=256:=by
 subst hp;have h1:=Nat.pow_le_pow_right (n:=2) (by omega) hi;have h2:=Nat.two_pow_pos i;omega
end Go.Proofs.YtdpbgcmfeajigaaGreatDoor
namespace Go.Proofs.YtdpbgcmfeajigaaGreatDoor
open Go.RowKit Go.Shelf
attribute [local go_sem] ak run_store_func
theorem KU {D E:Dom}(l:List Sg)(AS:Option Addr)(cS n:Nat)(f:Fm)(v:Value)(y z:Int)(w:World)(hn:n=l.length)(hG:lV w E AS cS l)(hf:bG w D v f)(hy0:0<=y)(hy1:y<=255)(hz0:0<=z)(hz1:z<=255)(hg:GF w)(hk:GK w) :
  Calls Tryz.prog 7 #[.slice AS n cS,v,.int .u8 y,.int .u8 z] w fun e w'=>e = .returned (.bool true)/\Below w.heap.size w w':=by
 obtain⟨AF,cF,rfl,hfa⟩:=hf;have HN:=hid hn;have HGL:=hid hG.old;have HF:=hid hfa.old;have HG:=hid hg;have HK:=hid hk;have HY:=hid (And.intro hy0 hy1);have HZ:=hid (And.intro hz0 hz1);clear hn hG hfa hg hk hy0 hy1 hz0 hz1
 go_enter Tryz.func7,Tryz.ntmps7
 go_upto_region 1 with(fail)
 refine aH fun U hU=>?_;have HB:=hid (show Below w.heap.size w U by rw[hU];go_grown);have HO:=hid (show OB U w.heap.size f.op f.name f.val f.bound AF f.args.length cF by rw[hU];exact at_new _ _ _ rfl);clear hU;have Tf:=hid (Ve U (HG.out.below HB.out HG.out.pos) (HK.out.below HB.out HK.out.pos));go_upto_region 2 with(go_at_call 8;(with_reducible refine Tf.out.mono ?_);rintro e V ⟨rfl,jO⟩;have iK:=hid jO;clear jO)
 have aY:=hid (ay HB.out iK.out);have Ej:=hid (HO.out.below iK.out)
 have HX:Hid (∀X:World,Below V.heap.size V X->bG X aZ (.agg #[.int .i64 f.op,.string f.name,.int .i64 f.val,.int .i64 f.bound,.slice AF f.args.length cF]) f/\lV X aZ AS cS l/\GF X/\GK X):=hid fun X hb =>
  ⟨⟨AF,cF,rfl,HF.out.any (ay aY.out hb)⟩,HGL.out.any (ay aY.out hb),HG.out.below (ay aY.out hb) HG.out.pos,HK.out.below (ay aY.out hb) HK.out.pos⟩
 clear HO Tf iK HB HF HG HK HGL;obtain⟨t0,t1,t2,t3,t4,t5⟩:=Ej.out.cells;obtain⟨r1,hr1⟩:∃r,decide (f.size<=120)=r:=⟨_,rfl⟩;obtain⟨r2,hr2⟩:∃r,bf f=r:=⟨_,rfl⟩;obtain⟨r3,hr3⟩:∃r,dM l=r:=⟨_,rfl⟩;obtain⟨L,hL⟩:∃L,aV f=L:=⟨_,rfl⟩;have H1:=hid hr1;have H2:=hid hr2;have H3:=hid hr3;have HL:=hid hL
 have Il:Hid (∀X,Below V.heap.size V X->Calls Tryz.prog 9 #[.agg #[.int .i64 f.op,.string f.name,.int .i64 f.val,.int .i64 f.bound,.slice AF f.args.length cF],.int .i64 120] X fun e w'=>e = .returned (.bool r1)/\Below V.heap.size V w'):=hid fun X hb=>by
  obtain⟨hx1,hx2,hx3,hx4⟩:=HX.out X hb;refine(OD (D:=aZ) f _ 120 120 X rfl hx1 (by omega) r1 H1.out).mono ?_;rintro e w' ⟨rfl,hb'⟩;exact⟨rfl,ay hb hb'⟩
 have HC2:Hid (∀X,Below V.heap.size V X->Calls Tryz.prog 11 #[.agg #[.int .i64 f.op,.string f.name,.int .i64 f.val,.int .i64 f.bound,.slice AF f.args.length cF]] X fun e w'=>e = .returned (.bool r2)/\Below V.heap.size V w'):=hid fun X hb=>by
  obtain⟨hx1,hx2,hx3,hx4⟩:=HX.out X hb;refine(FW f _ X hx1 r2 H2.out).mono ?_;rintro e w' ⟨rfl,hb'⟩;exact⟨rfl,ay hb hb'⟩
 have AX:Hid (∀X,Below V.heap.size V X->Calls Tryz.prog 23 #[.slice AS n cS] X fun e w'=>e = .returned (.bool r3)/\Below V.heap.size V w'):=hid fun X hb=>by
  obtain⟨hx1,hx2,hx3,hx4⟩:=HX.out X hb;refine(DN l AS cS n X HN.out hx2).mono ?_;rintro e w' ⟨rfl,hb'⟩;exact⟨by rw[H3.out],ay hb hb'⟩
 have zh:Hid (∀X,Below V.heap.size V X->Calls Tryz.prog 24 #[.agg #[.int .i64 f.op,.string f.name,.int .i64 f.val,.int .i64 f.bound,.slice AF f.args.length cF]] X fun e w'=>(∃A c,e = .returned (.slice A L.length c))/\Below V.heap.size V w'):=hid fun X hb=>by
  obtain⟨hx1,hx2,hx3,hx4⟩:=HX.out X hb;refine(OC (D:=aZ) f _ X hx1).mono ?_;rintro e w' ⟨A,c,rfl,_,hb'⟩;rw[HL.out];exact⟨⟨A,c,rfl⟩,ay hb hb'⟩
 have HC5:Hid (∀X,Below V.heap.size V X->Calls Tryz.prog 10 #[.agg #[.int .i64 f.op,.string f.name,.int .i64 f.val,.int .i64 f.bound,.slice AF f.args.length cF]] X fun e w'=>(∃A c,e = .returned (.slice A L.length c)/\bM w' (Cl w') L A c)/\Below V.heap.size V w'):=hid fun X hb=>by
  obtain⟨hx1,hx2,hx3,hx4⟩:=HX.out X hb;refine(BQ (D:=aZ) f _ X hx1 hx3 hx4).mono ?_;rintro e w' ⟨A,c,rfl,ha,hb'⟩;rw[HL.out]at ha⊢;exact⟨⟨A,c,rfl,ha.mono fun _ h _=>h.2⟩,ay hb hb'⟩
 clear hr1 hr2 hr3 hL;cases r1
 ·go_wp2_with (first|(go_at_call 9;(with_reducible refine(Il.out _ (Below.refl _ _)).mono ?_);rintro e V1 ⟨rfl,hb2⟩;clear t0 t1 t2 t3 t4 t5;obtain⟨t0,t1,t2,t3,t4,t5⟩:=(Ej.out.below hb2).cells;have lW:=hid hb2;clear hb2))
  go_ret
  exact⟨rfl,ay aY.out lW.out⟩
 cases r2
 ·go_wp2_with (first|(go_at_call 9;(with_reducible refine(Il.out _ (Below.refl _ _)).mono ?_);rintro e V1 ⟨rfl,hb2⟩;clear t0 t1 t2 t3 t4 t5;obtain⟨t0,t1,t2,t3,t4,t5⟩:=(Ej.out.below hb2).cells;have lW:=hid hb2;clear hb2)|(go_at_call 11;(with_reducible refine(HC2.out _ lW.out).mono ?_);rintro e V2 ⟨rfl,hb2⟩;clear t0 t1 t2 t3 t4 t5;obtain⟨t0,t1,t2,t3,t4,t5⟩:=(Ej.out.below hb2).cells;have rZ:=hid hb2;clear hb2))
  go_ret
  exact⟨rfl,ay aY.out rZ.out⟩
 cases r3
 ·go_wp2_with (first|(go_at_call 9;(with_reducible refine(Il.out _ (Below.refl _ _)).mono ?_);rintro e V1 ⟨rfl,hb2⟩;clear t0 t1 t2 t3 t4 t5;obtain⟨t0,t1,t2,t3,t4,t5⟩:=(Ej.out.below hb2).cells;have lW:=hid hb2;clear hb2)|(go_at_call 11;(with_reducible refine(HC2.out _ lW.out).mono ?_);rintro e V2 ⟨rfl,hb2⟩;clear t0 t1 t2 t3 t4 t5;obtain⟨t0,t1,t2,t3,t4,t5⟩:=(Ej.out.below hb2).cells;have rZ:=hid hb2;clear hb2)|(go_at_call 23;(with_reducible refine(AX.out _ rZ.out).mono ?_);rintro e V3 ⟨rfl,hb2⟩;clear t0 t1 t2 t3 t4 t5;obtain⟨t0,t1,t2,t3,t4,t5⟩:=(Ej.out.below hb2).cells;have HV3:=hid hb2;clear hb2))
  go_ret
  exact⟨rfl,ay aY.out HV3.out⟩
 rcases Nat.lt_or_ge 8 L.length with h8|h8
 ·have hi8:(8:Int)<(L.length:Int):=by omega
  have di8:=decide_eq_true hi8;clear h8
  go_wp2_with (first|(go_at_call 9;(with_reducible refine(Il.out _ (Below.refl _ _)).mono ?_);rintro e V1 ⟨rfl,hb2⟩;clear t0 t1 t2 t3 t4 t5;obtain⟨t0,t1,t2,t3,t4,t5⟩:=(Ej.out.below hb2).cells;have lW:=hid hb2;clear hb2)|(go_at_call 11;(with_reducible refine(HC2.out _ lW.out).mono ?_);rintro e V2 ⟨rfl,hb2⟩;clear t0 t1 t2 t3 t4 t5;obtain⟨t0,t1,t2,t3,t4,t5⟩:=(Ej.out.below hb2).cells;have rZ:=hid hb2;clear hb2)|(go_at_call 23;(with_reducible refine(AX.out _ rZ.out).mono ?_);rintro e V3 ⟨rfl,hb2⟩;clear t0 t1 t2 t3 t4 t5;obtain⟨t0,t1,t2,t3,t4,t5⟩:=(Ej.out.below hb2).cells;have HV3:=hid hb2;clear hb2)|(go_at_call 24;(with_reducible refine(zh.out _ HV3.out).mono ?_);rintro e V4 ⟨⟨AQ,cQ,rfl⟩,hb2⟩;clear t0 t1 t2 t3 t4 t5;obtain⟨t0,t1,t2,t3,t4,t5⟩:=(Ej.out.below hb2).cells;have HV4:=hid hb2;clear hb2))
  go_ret
  exact⟨rfl,ay aY.out HV4.out⟩
 have hi8:¬(8:Int)<(L.length:Int):=by omega
 have di8:=decide_eq_false hi8;have LH:=hid h8;have EK:=hid (show f.size<=120 from of_decide_eq_true H1.out);clear h8
 go_upto_region 7 with(first|(go_at_call 9;(with_reducible refine(Il.out _ (Below.refl _ _)).mono ?_);rintro e V1 ⟨rfl,hb2⟩;clear t0 t1 t2 t3 t4 t5;obtain⟨t0,t1,t2,t3,t4,t5⟩:=(Ej.out.below hb2).cells;have lW:=hid hb2;clear hb2)|(go_at_call 11;(with_reducible refine(HC2.out _ lW.out).mono ?_);rintro e V2 ⟨rfl,hb2⟩;clear t0 t1 t2 t3 t4 t5;obtain⟨t0,t1,t2,t3,t4,t5⟩:=(Ej.out.below hb2).cells;have rZ:=hid hb2;clear hb2)|(go_at_call 23;(with_reducible refine(AX.out _ rZ.out).mono ?_);rintro e V3 ⟨rfl,hb2⟩;clear t0 t1 t2 t3 t4 t5;obtain⟨t0,t1,t2,t3,t4,t5⟩:=(Ej.out.below hb2).cells;have HV3:=hid hb2;clear hb2)|(go_at_call 24;(with_reducible refine(zh.out _ HV3.out).mono ?_);rintro e V4 ⟨⟨AQ,cQ,rfl⟩,hb2⟩;clear t0 t1 t2 t3 t4 t5;obtain⟨t0,t1,t2,t3,t4,t5⟩:=(Ej.out.below hb2).cells;have HV4:=hid hb2;clear hb2)|(go_at_call 10;(with_reducible refine(HC5.out _ HV4.out).mono ?_);rintro e V5 ⟨⟨AN,cN,rfl,ha⟩,hb2⟩;clear t0 t1 t2 t3 t4 t5;obtain⟨t0,t1,t2,t3,t4,t5⟩:=(Ej.out.below hb2).cells;have HV5:=hid hb2;clear hb2;have HNA:=hid ha;clear ha))
 have HOF3:=hid (Ej.out.below HV5.out)
 have O7:Hid (∀X:World,Below V5.heap.size V5 X->bM X (Cl X) L AN cN):=hid fun X hb=>by
  have h1:=HNA.out;exact h1.aX hb
 clear t0 t1 t2 t3 t4 t5 Il HC2 AX zh HC5 hi8 di8 lW rZ HV3 HV4;have hLb:=LH.out
 go_loopw [11,12] (fun r q wr=>∃i p:Nat,i<=L.length/\p=2 ^ i/\r = .int .i64 (p:Int)/\q = .int .i64 (i:Int)/\Below V5.heap.size V5 wr) (fun _ q _=>L.length-(intOf q).toNat)
 case atStart=>exact⟨0,1,Nat.zero_le _,rfl,rfl,rfl,by first|exact Below.refl _ _|go_grown⟩
 case round =>
  obtain⟨i,p,hi,hp,rfl,rfl,hbl⟩:=hrel;have bT:=hid hbl;have HP:=hid hp;have HPB:=hid (qaR (n:=0) hp (Nat.le_trans hi LH.out));clear hbl hp;have hLb:=LH.out
  by_cases hlt:i<L.length
  ·have hii:(i:Int)<(L.length:Int):=by omega
   have hwm:IntKind.i64.wrap ((p:Int)*2)=(p:Int)*2:=IntWalk.i64_in _ (by have:=HPB.out;omega);have hw1:IntKind.i64.wrap ((i:Int)+1)=(i:Int)+1:=IntWalk.i64_in _ (by omega);have fQ:=hid hlt;clear hlt;go_wp2_with fail
   go_roundw
   case rel=>exact⟨i+1,p*2,by have:=fQ.out;omega,by rw[HP.out,Nat.pow_succ],by go_num,by go_num,by first|exact bT.out|exact ay bT.out (by go_grown)⟩
   case measure=>have:=fQ.out;simp[intOf];omega
  ·have hii:¬(i:Int)<(L.length:Int):=by omega
   have hil:i=L.length:=by omega
   subst hil;have HVW:=hid (ay HV5.out bT.out);have qay:=hid (HOF3.out.below bT.out);have HPL:=hid (NZ H3.out);obtain⟨lz,hlz⟩:∃z,cO l=z:=⟨_,rfl⟩;have Xp:=hid hlz;rw[hlz]at HPL;clear hlz;have hcv:=TL y HY.out.1 HY.out.2;have hcv2:=TL z HZ.out.1 HZ.out.2;obtain⟨a,ha⟩:∃a:Nat,y.tmod (p:Int)=(a:Int):=⟨(y.tmod p).toNat,by have:=Int.tmod_nonneg (p:Int) HY.out.1;omega⟩;have qy:=hid (show a<p by have:=Int.tmod_lt_of_pos y (show(0:Int)<(p:Int)by have:=HPB.out;omega);omega);obtain⟨x,hx⟩:∃x,z.tmod lz=x:=⟨_,rfl⟩;have HXB:=hid (show 0<=x/\x<lz from⟨by rw[<-hx];exact Int.tmod_nonneg _ HZ.out.1,by rw[<-hx];exact Int.tmod_lt_of_pos _ (by have:=HPL.out;omega)⟩);have hp0:¬(p:Int)=0:=by have:=HPB.out;omega
   have hl0:¬lz=0:=by have:=HPL.out;omega
   have hw1:IntKind.i64.wrap (a:Int)=(a:Int):=IntWalk.i64_in _ (by have:=qy.out;have:=HPB.out;omega);have hw4:IntKind.i64.wrap x=x:=IntWalk.i64_in _ (by have:=HXB.out;have:=HPL.out;omega);clear hlt hi;have Ip:=hid (show jX L=true by rw[<-HL.out];exact DF (by rw[HL.out];exact LH.out));have L6:=hid (show∀g,g∈aW f->g∈L from fun g hg=>by rw[<-HL.out];exact(kZ H2.out).2 hg)
   have kP:Hid (∀(X:World),Below wr.heap.size wr X->Calls Tryz.prog 26 #[.slice AS n cS] X fun e w'=>e = .returned (.int .i64 lz)/\Below wr.heap.size wr w'):=hid fun X hb=>by
    obtain⟨hx1,hx2,hx3,hx4⟩:=HX.out X (ay HVW.out hb);refine(Ic (D:=aZ) l AS n cS X HN.out hx2).mono ?_;rintro e w' ⟨rfl,hb'⟩;exact⟨by rw[Xp.out],ay hb hb'⟩
   obtain⟨g,hg⟩:∃g,qc L a f=g:=⟨_,rfl⟩;have HGP:=hid hg
   have HE2:Hid (∀(X:World),Below wr.heap.size wr X->Calls Tryz.prog 27 #[.slice AN L.length cN,.int .i64 (a:Int),.agg #[.int .i64 f.op,.string f.name,.int .i64 f.val,.int .i64 f.bound,.slice AF f.args.length cF]] X fun e w'=>(∃AG cG,e = .returned (.agg #[.int .i64 g.op,.string g.name,.int .i64 g.val,.int .i64 g.bound,.slice AG g.args.length cG])/\bM w' (Cl w') g.args AG cG)/\Below wr.heap.size wr w'):=hid fun X hb=>by
    obtain⟨hx1,hx2,hx3,hx4⟩:=HX.out X (ay HVW.out hb);refine(KX (D:=aZ) L AN cN L.length (a:Int) f _ X rfl (O7.out X (ay bT.out hb)) Ip.out hx1 H2.out L6.out hx3 hx4 (by have:=EK.out;omega) a rfl true (decide_eq_true (by rw[<-HP.out];exact qy.out))).mono ?_;rintro e w' ⟨u,rfl,hb',A,c,rfl,h⟩;rw[if_pos rfl,HGP.out]at h⊢;exact⟨⟨A,c,rfl,h.mono fun _ h _=>h.2⟩,ay hb hb'⟩
   clear hg;have t0:=qay.out.cells;obtain⟨t0,t1,t2,t3,t4,t5⟩:=t0;go_upto_region 13 with(first|(go_at_call 26;(with_reducible refine(kP.out _ (Below.refl _ _)).mono ?_);rintro e V6 ⟨rfl,hb2⟩;clear t0 t1 t2 t3 t4 t5;obtain⟨t0,t1,t2,t3,t4,t5⟩:=(qay.out.below hb2).cells;have HV6:=hid hb2;clear hb2)|(go_at_call 27;(with_reducible refine(HE2.out _ HV6.out).mono ?_);rintro e V7 ⟨⟨AG,cG,rfl,hga⟩,hb2⟩;clear t0 t1 t2 t3 t4 t5;obtain⟨t0,t1,t2,t3,t4,t5⟩:=(qay.out.below hb2).cells;have HV7:=hid hb2;clear hb2;have WM:=hid hga;clear hga))
   refine aH fun U2 hU2=>?_;have hb:=(show Below V7.heap.size V7 U2 by rw[hU2];go_grown);have HU2:=hid (ay HV7.out hb);have HOG:=hid (show OB U2 V7.heap.size g.op g.name g.val g.bound AG g.args.length cG by show U2.heap[_]?=_;rw[hU2];exact at_new _ _ _ rfl);have HGA2:Hid (bM U2 (Cl U2) g.args AG cG):=hid (by have h1:=WM.out;exact h1.aX hb);clear hU2 hb WM kP HE2 t0 t1 t2 t3 t4 t5;obtain⟨gb,hgb⟩:∃x,V7.heap.size=x:=⟨_,rfl⟩;rw[hgb]at HOG;rw[hgb];clear hgb HV7 HV6;have qcW:=hid (qay.out.below HU2.out);have HVU:=hid (ay HVW.out HU2.out);have HBU:=hid (ay bT.out HU2.out);have qcO:=hid (show bf g=true by rw[<-HGP.out,<-HL.out];exact Sm H2.out a)
   have HGS:=hid (show g.size=f.size by rw[<-HGP.out];exact VP L a f);have HGN:=hid (show nN g=nN f by rw[<-HGP.out];exact Sr L a f);have HGPA:=hid (show allB dL g=allB dL f by rw[<-HGP.out];exact VO L a f);obtain⟨M,hM⟩:∃M,aV g=M:=⟨_,rfl⟩;have HM:=hid hM;have Xm:=hid (show qc (aV f) a f=g by rw[HL.out,HGP.out]);have HMLE:=hid (show M.length<=L.length by have:=Zp H2.out a;rw[Xm.out,HM.out,HL.out]at this;exact this);obtain⟨K,hK⟩:∃K,nN f=K:=⟨_,rfl⟩;have HKN:=hid hK;obtain⟨s0,hs0⟩:∃s,rQ L=s:=⟨_,rfl⟩;have HS0:=hid hs0;have HFD:=hid (show f.depth<=60 from(gY H2.out).2.1);have HGD:=hid (show g.depth<=60 from(gY qcO.out).2.1);clear hM hK hs0
   have WT:Hid (∀X:World,Below U2.heap.size U2 X->bM X (Cl X) L AN cN/\bG X aZ (.agg #[.int .i64 g.op,.string g.name,.int .i64 g.val,.int .i64 g.bound,.slice AG g.args.length cG]) g/\bG X aZ (.agg #[.int .i64 f.op,.string f.name,.int .i64 f.val,.int .i64 f.bound,.slice AF f.args.length cF]) f/\lV X aZ AS cS l/\GF X/\GK X):=hid fun X hb=>by
    obtain⟨hx1,hx2,hx3,hx4⟩:=HX.out X (ay HVU.out hb);have h1:=HGA2.out;exact⟨O7.out X (ay HBU.out hb),⟨AG,cG,rfl,h1.any hb⟩,hx1,hx2,hx3,hx4⟩
   have aK:Hid (∀W':World,Below U2.heap.size U2 W'->(W'.cell? ⟨w.heap.size,0,none⟩=some (.int .i64 f.op)/\W'.cell? ⟨w.heap.size,1,none⟩=some (.string f.name)/\W'.cell? ⟨w.heap.size,2,none⟩=some (.int .i64 f.val)/\W'.cell? ⟨w.heap.size,3,none⟩=some (.int .i64 f.bound)/\W'.cell? ⟨w.heap.size,4,none⟩=some (.slice AF f.args.length cF))/\(W'.cell? ⟨gb,0,none⟩=some (.int .i64 g.op)/\W'.cell? ⟨gb,1,none⟩=some (.string g.name)/\W'.cell? ⟨gb,2,none⟩=some (.int .i64 g.val)/\W'.cell? ⟨gb,3,none⟩=some (.int .i64 g.bound)/\W'.cell? ⟨gb,4,none⟩=some (.slice AG g.args.length cG))):=hid fun W' hb=>by
    obtain⟨a0,a1,a2,a3,a4,_⟩:=(qcW.out.below hb).cells;obtain⟨b0,b1,b2,b3,b4,_⟩:=(HOG.out.below hb).cells;exact⟨⟨a0,a1,a2,a3,a4⟩,b0,b1,b2,b3,b4⟩
   have LY:Hid (∀(X:World),Below U2.heap.size U2 X->Calls Tryz.prog 18 #[.slice AN L.length cN] X fun e w'=>e = .returned (.int .i64 (s0:Int))/\Below U2.heap.size U2 w'):=hid fun X hb=>by
    obtain⟨hx0,hx1,hx2,hx3,hx4,hx5⟩:=WT.out X hb;refine(CB L AN cN L.length X rfl hx0 (fun _ h=>h) Ip.out hx4 hx5).mono ?_;rintro e w' ⟨rfl,hb'⟩;exact⟨by rw[HS0.out],ay hb hb'⟩
   have HF2:Hid (∀(X:World),Below U2.heap.size U2 X->Calls Tryz.prog 27 #[.slice AN L.length cN,.int .i64 (s0:Int),.agg #[.int .i64 f.op,.string f.name,.int .i64 f.val,.int .i64 f.bound,.slice AF f.args.length cF]] X fun e w'=>(∃A9 c9,e = .returned (.agg #[.int .i64 f.op,.string f.name,.int .i64 f.val,.int .i64 f.bound,.slice A9 f.args.length c9])/\bM w' (Cl w') f.args A9 c9)/\Below U2.heap.size U2 w'):=hid fun X hb=>by
    obtain⟨hx0,hx1,hx2,hx3,hx4,hx5⟩:=WT.out X hb;refine(KX (D:=aZ) L AN cN L.length (s0:Int) f _ X rfl hx0 Ip.out hx2 H2.out L6.out hx4 hx5 (by have:=EK.out;omega) s0 rfl true (decide_eq_true (by rw[<-HS0.out];exact Wx L))).mono ?_;rintro e w' ⟨u,rfl,hb',A,c,rfl,h⟩;have hpf:qc L s0 f=f:=by rw[<-HS0.out,<-HL.out];exact VN H2.out
    rw[if_pos rfl,hpf]at h⊢;exact⟨⟨A,c,rfl,h.mono fun _ h _=>h.2⟩,ay hb hb'⟩
   have HF3:Hid (∀(X:World) A9 c9,Below U2.heap.size U2 X->bM X (Cl X) f.args A9 c9->Calls Tryz.prog 16 #[.agg #[.int .i64 f.op,.string f.name,.int .i64 f.val,.int .i64 f.bound,.slice A9 f.args.length c9],.agg #[.int .i64 f.op,.string f.name,.int .i64 f.val,.int .i64 f.bound,.slice AF f.args.length cF]] X fun e w'=>e = .returned (.int .i64 0)/\Below U2.heap.size U2 w'):=hid fun X A9 c9 hb hp1=>by
    obtain⟨hx0,hx1,hx2,hx3,hx4,hx5⟩:=WT.out X hb;refine(lC (D:=Cl X) (E:=aZ) f f _ _ X (bG.cells5 hp1) hx2 (by have:=EK.out;omega) (.inl fun _ h=>h)).mono ?_;rintro e w' ⟨rfl,hb'⟩;exact⟨by rw[kS.2 rfl],ay hb hb'.below⟩
   have HF4:Hid (∀(X:World),Below U2.heap.size U2 X->Calls Tryz.prog 30 #[.agg #[.int .i64 g.op,.string g.name,.int .i64 g.val,.int .i64 g.bound,.slice AG g.args.length cG]] X fun e w'=>e = .returned (.int .i64 (f.size:Int))/\Below U2.heap.size U2 w'):=hid fun X hb=>by
    obtain⟨hx0,hx1,hx2,hx3,hx4,hx5⟩:=WT.out X hb;refine(size_any (D:=aZ) g _ X hx1 hx4 (by have:=HGD.out;omega) (by have:=HGS.out;have:=EK.out;omega)).mono ?_;rintro e w' ⟨rfl,hb'⟩;exact⟨by rw[HGS.out],ay hb hb'⟩
   have HF5:Hid (∀(X:World),Below U2.heap.size U2 X->Calls Tryz.prog 30 #[.agg #[.int .i64 f.op,.string f.name,.int .i64 f.val,.int .i64 f.bound,.slice AF f.args.length cF]] X fun e w'=>e = .returned (.int .i64 (f.size:Int))/\Below U2.heap.size U2 w'):=hid fun X hb=>by
    obtain⟨hx0,hx1,hx2,hx3,hx4,hx5⟩:=WT.out X hb;refine(size_any (D:=aZ) f _ X hx2 hx4 (by have:=HFD.out;omega) (by have:=EK.out;omega)).mono ?_;rintro e w' ⟨rfl,hb'⟩;exact⟨rfl,ay hb hb'⟩
   have HF6:Hid (∀(X:World),Below U2.heap.size U2 X->Calls Tryz.prog 32 #[.agg #[.int .i64 g.op,.string g.name,.int .i64 g.val,.int .i64 g.bound,.slice AG g.args.length cG]] X fun e w'=>(∃A c,e = .returned (.slice A K.length c)/\Qi w' aZ A c K/\Below X.heap.size X w')/\Below U2.heap.size U2 w'):=hid fun X hb=>by
    obtain⟨hx0,hx1,hx2,hx3,hx4,hx5⟩:=WT.out X hb;refine(Jk (D:=aZ) g _ X hx1 hx4 (by have:=HGD.out;omega) (by have:=HGS.out;have:=EK.out;omega)).mono ?_;rintro e w' ⟨A,c,rfl,h,hb'⟩;rw[HGN.out,HKN.out]at h⊢;exact⟨⟨A,c,rfl,h.below (Below.refl _ _),hb'⟩,ay hb hb'⟩
   have Xh:Hid (∀(X:World),Below U2.heap.size U2 X->Calls Tryz.prog 32 #[.agg #[.int .i64 f.op,.string f.name,.int .i64 f.val,.int .i64 f.bound,.slice AF f.args.length cF]] X fun e w'=>(∃A c,e = .returned (.slice A K.length c)/\Qi w' aZ A c K/\Below X.heap.size X w')/\Below U2.heap.size U2 w'):=hid fun X hb=>by
    obtain⟨hx0,hx1,hx2,hx3,hx4,hx5⟩:=WT.out X hb;refine(Jk (D:=aZ) f _ X hx2 hx4 (by have:=HFD.out;omega) (by have:=HGS.out;have:=EK.out;omega)).mono ?_;rintro e w' ⟨A,c,rfl,h,hb'⟩;rw[HKN.out]at h⊢;exact⟨⟨A,c,rfl,h.below (Below.refl _ _),hb'⟩,ay hb hb'⟩
   have HF8:Hid (∀(X:World) A8 c8 A7 c7,Below U2.heap.size U2 X->Qi X aZ A8 c8 K->Qi X aZ A7 c7 K->Calls Tryz.prog 31 #[.slice A8 K.length c8,.slice A7 K.length c7] X fun e w'=>e = .returned (.bool true)/\Below U2.heap.size U2 w'):=hid fun X A8 c8 A7 c7 hb hp1 hp2=>by
    obtain⟨hx0,hx1,hx2,hx3,hx4,hx5⟩:=WT.out X hb;refine(Le hp1 hp2 rfl rfl).mono ?_;rintro e w' ⟨rfl,hb'⟩;exact⟨by rw[Nv.2 rfl],ay hb hb'⟩
   have HF9:Hid (∀(X:World),Below U2.heap.size U2 X->Calls Tryz.prog 10 #[.agg #[.int .i64 g.op,.string g.name,.int .i64 g.val,.int .i64 g.bound,.slice AG g.args.length cG]] X fun e w'=>(∃A c,e = .returned (.slice A M.length c)/\bM w' (Cl w') M A c)/\Below U2.heap.size U2 w'):=hid fun X hb=>by
    obtain⟨hx0,hx1,hx2,hx3,hx4,hx5⟩:=WT.out X hb;refine(BQ (D:=aZ) g _ X hx1 hx4 hx5).mono ?_;rintro e w' ⟨A,c,rfl,ha,hb'⟩;rw[HM.out]at ha⊢;exact⟨⟨A,c,rfl,ha.mono fun _ h _=>h.2⟩,ay hb hb'⟩
   have HI0:=hid (Below.refl U2.heap.size U2);have HI1:=hid (show Below U2.heap.size U2 U2.drew from(Below.refl U2.heap.size U2).drew);have HI2:=hid (show∀i,Below U2.heap.size U2 (U2.drewN i)from fun i=>below_drewN (Below.refl U2.heap.size U2) i);obtain⟨⟨p0,p1,p2,p3,p4⟩,q0,q1,q2,q3,q4⟩:=aK.out U2 (Below.refl _ _);have zb1:=qcW.out.cells.2.2.2.2.2;have zb2:=HOG.out.cells.2.2.2.2.2
   go_region_held3 (fun W':World=>(W'.cell? ⟨w.heap.size,0,none⟩=some (.int .i64 f.op)/\W'.cell? ⟨w.heap.size,1,none⟩=some (.string f.name)/\W'.cell? ⟨w.heap.size,2,none⟩=some (.int .i64 f.val)/\W'.cell? ⟨w.heap.size,3,none⟩=some (.int .i64 f.bound)/\W'.cell? ⟨w.heap.size,4,none⟩=some (.slice AF f.args.length cF))/\(W'.cell? ⟨gb,0,none⟩=some (.int .i64 g.op)/\W'.cell? ⟨gb,1,none⟩=some (.string g.name)/\W'.cell? ⟨gb,2,none⟩=some (.int .i64 g.val)/\W'.cell? ⟨gb,3,none⟩=some (.int .i64 g.bound)/\W'.cell? ⟨gb,4,none⟩=some (.slice AG g.args.length cG)))
    (first|(with_reducible exact aK.out _ hI)|(go_keep;done))
    (first
     | (go_at_call 18;(with_reducible refine(LY.out _ (by first|exact HI0.out|exact HI1.out|exact HI2.out _)).mono ?_);rintro e W9 ⟨rfl,hI⟩)
     | (go_at_call 27;(with_reducible refine(HF2.out _ hI).mono ?_);rintro e W9 ⟨⟨A9,c9,rfl,hv⟩,wG⟩;clear hI;have hI:=wG;clear wG)
     | (go_at_call 16;(with_reducible refine(HF3.out _ _ _ hI hv).mono ?_);rintro e W9 ⟨rfl,wG⟩;clear hv;clear hI;have hI:=wG;clear wG)
     | (go_at_call 30;(with_reducible refine(HF4.out _ hI).mono ?_);rintro e W9 ⟨rfl,wG⟩;clear hI;have hI:=wG;clear wG)
     | (go_at_call 30;(with_reducible refine(HF5.out _ hI).mono ?_);rintro e W9 ⟨rfl,wG⟩;clear hI;have hI:=wG;clear wG)
     | (go_at_call 32;(with_reducible refine(HF6.out _ hI).mono ?_);rintro e W9 ⟨⟨A8,c8,rfl,hs1,_⟩,wG⟩;clear hI;have hI:=wG;clear wG)
     | (go_at_call 32;(with_reducible refine(Xh.out _ hI).mono ?_);rintro e W9 ⟨⟨A7,c7,rfl,hs2,hb7⟩,wG⟩;have hs3:=hs1.below hb7;clear hs1 hb7;clear hI;have hI:=wG;clear wG)
     | (go_at_call 31;(with_reducible refine(HF8.out _ _ _ _ _ hI hs3 hs2).mono ?_);rintro e W9 ⟨rfl,wG⟩;clear hs3 hs2;clear hI;have hI:=wG;clear wG))
   all_goals
    have HI:=hid hI;clear hI p0 p1 p2 p3 p4 q0 q1 q2 q3 q4;obtain⟨q0,q1,q2,q3,q4,q5⟩:=(HOG.out.below HI.out).cells;go_upto_region 16 with(go_at_call 10;(with_reducible refine(HF9.out _ HI.out).mono ?_);rintro e rX ⟨⟨AM,cM,rfl,hma⟩,hb2⟩;have Qg:=hid hb2;have HMA:=hid hma;clear hb2 hma q0 q1 q2 q3 q4 q5)
    by_cases hml:M.length=L.length
    rotate_left
    ·have hm1:(M.length:Int)<(L.length:Int):=by have:=HMLE.out;omega
     have hm2:¬(M.length:Int)=(L.length:Int):=by omega
     clear hml;go_wp2_with fail
     go_ret
     exact⟨rfl,ay aY.out (ay HVU.out Qg.out)⟩
    rw[hml];have HML:=hid hml;have zi:=hid (show aV (qc (aV f) a f)=(aV f).map (bD (vZ (aV f) a))from qbJ H2.out (by rw[Xm.out,HM.out,HL.out,HML.out]));have HAP:=hid (show a<2 ^ (aV f).length by rw[HL.out,<-HP.out];exact qy.out);have HSM:=hid (show rQ M=a by have:=Wy H2.out HAP.out zi.out;rw[Xm.out,HM.out]at this;exact this);obtain⟨k,hk⟩:∃k,tq (lN l x) L a=k:=⟨_,rfl⟩;have O6:=hid hk;have ED:=hid (show tq (lN l x) M a=k by have:=Zf (sg:=lN l x) H2.out zi.out;rw[Xm.out,HM.out,HL.out,O6.out]at this;exact this);have HMB:=hid (show jX M=true by rw[<-HM.out];exact DF (by rw[HM.out,HML.out];exact LH.out));obtain⟨pf,hpf⟩:∃r,allB dL f=r:=⟨_,rfl⟩;have Iq:=hid hpf
    obtain⟨r,hr⟩:∃r,fH (lN l x) (bZ L a) f=r:=⟨_,rfl⟩;have HR:=hid hr;have HR2:=hid (show fH (lN l x) (bZ M a) g=r by have:=qbA (sg:=lN l x) H2.out zi.out;rw[Xm.out,HM.out,HL.out,HR.out]at this;exact this);clear hml hk hpf hr
    have HXM:Hid (∀X:World,Below rX.heap.size rX X->bM X (Cl X) M AM cM/\bM X (Cl X) L AN cN/\bG X aZ (.agg #[.int .i64 g.op,.string g.name,.int .i64 g.val,.int .i64 g.bound,.slice AG g.args.length cG]) g/\bG X aZ (.agg #[.int .i64 f.op,.string f.name,.int .i64 f.val,.int .i64 f.bound,.slice AF f.args.length cF]) f/\lV X aZ AS cS l/\GF X/\GK X):=hid fun X hb=>by
     obtain⟨hx0,hx1,hx2,hx3,hx4,hx5⟩:=WT.out X (ay Qg.out hb);have h1:=HMA.out;exact⟨h1.aX hb,hx0,hx1,hx2,hx3,hx4,hx5⟩
    have CS:Hid (∀W':World,Below rX.heap.size rX W'->(W'.cell? ⟨w.heap.size,0,none⟩=some (.int .i64 f.op)/\W'.cell? ⟨w.heap.size,1,none⟩=some (.string f.name)/\W'.cell? ⟨w.heap.size,2,none⟩=some (.int .i64 f.val)/\W'.cell? ⟨w.heap.size,3,none⟩=some (.int .i64 f.bound)/\W'.cell? ⟨w.heap.size,4,none⟩=some (.slice AF f.args.length cF))/\(W'.cell? ⟨gb,0,none⟩=some (.int .i64 g.op)/\W'.cell? ⟨gb,1,none⟩=some (.string g.name)/\W'.cell? ⟨gb,2,none⟩=some (.int .i64 g.val)/\W'.cell? ⟨gb,3,none⟩=some (.int .i64 g.bound)/\W'.cell? ⟨gb,4,none⟩=some (.slice AG g.args.length cG))):=hid fun W' hb=>aK.out W' (ay Qg.out hb)
    have HH1:Hid (∀(X:World),Below rX.heap.size rX X->Calls Tryz.prog 18 #[.slice AM L.length cM] X fun e w'=>e = .returned (.int .i64 (a:Int))/\Below rX.heap.size rX w'):=hid fun X hb=>by
     obtain⟨hm0,hx0,hx1,hx2,hx3,hx4,hx5⟩:=HXM.out X hb;refine(CB M AM cM L.length X HML.out.symm hm0 (fun _ h=>h) HMB.out hx4 hx5).mono ?_;rintro e w' ⟨rfl,hb'⟩;exact⟨by rw[HSM.out],ay hb hb'⟩
    have HH2:Hid (∀(X:World),Below rX.heap.size rX X->Calls Tryz.prog 22 #[.slice AS n cS,.slice AM L.length cM,.int .i64 (a:Int),.int .i64 x] X fun e w'=>e = .returned (.int .i64 (k:Int))/\Below rX.heap.size rX w'):=hid fun X hb=>by
     obtain⟨hm0,hx0,hx1,hx2,hx3,hx4,hx5⟩:=HXM.out X hb;refine(FZ l AS cS n M AM cM L.length a x X HN.out hx3 HML.out.symm hm0 HMB.out hx4 hx5 (by rw[<-HP.out];exact qy.out) HXB.out.1 (by rw[Xp.out];exact HXB.out.2)).mono ?_;rintro e w' ⟨rfl,hb'⟩;exact⟨by rw[ED.out],ay hb hb'⟩
    have HH3:Hid (∀(X:World),Below rX.heap.size rX X->Calls Tryz.prog 22 #[.slice AS n cS,.slice AN L.length cN,.int .i64 (a:Int),.int .i64 x] X fun e w'=>e = .returned (.int .i64 (k:Int))/\Below rX.heap.size rX w'):=hid fun X hb=>by
     obtain⟨hm0,hx0,hx1,hx2,hx3,hx4,hx5⟩:=HXM.out X hb;refine(FZ l AS cS n L AN cN L.length a x X HN.out hx3 rfl hx0 Ip.out hx4 hx5 (by rw[<-HP.out];exact qy.out) HXB.out.1 (by rw[Xp.out];exact HXB.out.2)).mono ?_;rintro e w' ⟨rfl,hb'⟩;exact⟨by rw[O6.out],ay hb hb'⟩
    have HH4:Hid (∀(X:World),Below rX.heap.size rX X->Calls Tryz.prog 12 #[.agg #[.int .i64 f.op,.string f.name,.int .i64 f.val,.int .i64 f.bound,.slice AF f.args.length cF]] X fun e w'=>e = .returned (.bool pf)/\Below rX.heap.size rX w'):=hid fun X hb=>by
     obtain⟨hm0,hx0,hx1,hx2,hx3,hx4,hx5⟩:=HXM.out X hb;refine(oQ f _ X hx2 hx4 (by have:=HFD.out;omega)).mono ?_;rintro e w' ⟨rfl,hb'⟩;exact⟨by rw[Iq.out],ay hb hb'⟩
    have HI0:=hid (Below.refl rX.heap.size rX);have HI1:=hid (show Below rX.heap.size rX rX.drew from(Below.refl rX.heap.size rX).drew);have HI2:=hid (show∀i,Below rX.heap.size rX (rX.drewN i)from fun i=>below_drewN (Below.refl rX.heap.size rX) i);go_upto_region 18 with(fail)
    obtain⟨⟨p0,p1,p2,p3,p4⟩,q0,q1,q2,q3,q4⟩:=CS.out rX (Below.refl _ _);have zb1:=(qcW.out.below Qg.out).cells.2.2.2.2.2;have zb2:=(HOG.out.below Qg.out).cells.2.2.2.2.2;cases pf
    ·refine wp_region_held_drew (S:=fun W':World=>(W'.cell? ⟨w.heap.size,0,none⟩=some (.int .i64 f.op)/\W'.cell? ⟨w.heap.size,1,none⟩=some (.string f.name)/\W'.cell? ⟨w.heap.size,2,none⟩=some (.int .i64 f.val)/\W'.cell? ⟨w.heap.size,3,none⟩=some (.int .i64 f.bound)/\W'.cell? ⟨w.heap.size,4,none⟩=some (.slice AF f.args.length cF))/\(W'.cell? ⟨gb,0,none⟩=some (.int .i64 g.op)/\W'.cell? ⟨gb,1,none⟩=some (.string g.name)/\W'.cell? ⟨gb,2,none⟩=some (.int .i64 g.val)/\W'.cell? ⟨gb,3,none⟩=some (.int .i64 g.bound)/\W'.cell? ⟨gb,4,none⟩=some (.slice AG g.args.length cG))) (by kernel_rfl) ⟨⟨p0,p1,p2,p3,p4⟩,q0,q1,q2,q3,q4⟩ (fun hHeld=>?_)
     refine gK 0 ?_ rfl (by kernel_rfl) (fun _ _ _ h=>h) ?_ (by assumption) ?_
     rotate_left
     ·intro w hSw;(try dsimp only at hSw);obtain⟨⟨s0,s1,s2,s3,s4⟩,s5,s6,s7,s8,s9⟩:=hSw;go_simp;(try(with_reducible rfl))
     try simp only[Act.put,cZ,dh,dw]
     refine gK 1 ?_ rfl (by kernel_rfl) (fun _ _ _ h=>h) ?_ (by assumption) ?_
     rotate_left
     ·intro w hSw;(try dsimp only at hSw);obtain⟨⟨s0,s1,s2,s3,s4⟩,s5,s6,s7,s8,s9⟩:=hSw;go_simp;(try(with_reducible rfl))
     try simp only[Act.put,cZ,dh,dw]
     refine gK 2 ?_ rfl (by kernel_rfl) (fun _ _ _ h=>h) ?_ (by assumption) ?_
     rotate_left
     ·intro w hSw;(try dsimp only at hSw);obtain⟨⟨s0,s1,s2,s3,s4⟩,s5,s6,s7,s8,s9⟩:=hSw;go_simp;(try(with_reducible rfl))
     try simp only[Act.put,cZ,dh,dw]
     refine gK 4 ?_ rfl (by kernel_rfl) (fun _ _ _ h=>h) ?_ (by assumption) ?_
     rotate_left
     ·intro w hSw;(try dsimp only at hSw);obtain⟨⟨s0,s1,s2,s3,s4⟩,s5,s6,s7,s8,s9⟩:=hSw;go_simp;(try(with_reducible rfl))
     try simp only[Act.put,cZ,dh,dw]
     refine qR 3 (by kernel_rfl) rfl fun K hK=>?_
     go_simp
     (go_at_call 18;(with_reducible refine(HH1.out _ (by first|exact HI0.out|exact HI1.out|exact HI2.out _)).mono ?_);rintro e W7 ⟨rfl,hI⟩;have HJ:=hid hI;clear hI)
     go_wp2_with fail
     refine hK.out _ _ ?_ (fun hHeld=>?_)
     ·exact CS.out _ HJ.out
     clear hK K
     try simp only[Act.put,cZ,dh,dw]
     refine gK 5 ?_ rfl (by kernel_rfl) (fun _ _ _ h=>h) ?_ (by assumption) ?_
     rotate_left
     ·intro w hSw;(try dsimp only at hSw);obtain⟨⟨s0,s1,s2,s3,s4⟩,s5,s6,s7,s8,s9⟩:=hSw;go_simp;(try(with_reducible rfl))
     try simp only[Act.put,cZ,dh,dw]
     refine gK 6 ?_ rfl (by kernel_rfl) (fun _ _ _ h=>h) ?_ (by assumption) ?_
     rotate_left
     ·intro w hSw;(try dsimp only at hSw);obtain⟨⟨s0,s1,s2,s3,s4⟩,s5,s6,s7,s8,s9⟩:=hSw;go_simp;(try(with_reducible rfl))
     try simp only[Act.put,cZ,dh,dw]
     refine gK 7 ?_ rfl (by kernel_rfl) (fun _ _ _ h=>h) ?_ (by assumption) ?_
     rotate_left
     ·intro w hSw;(try dsimp only at hSw);obtain⟨⟨s0,s1,s2,s3,s4⟩,s5,s6,s7,s8,s9⟩:=hSw;go_simp;(try(with_reducible rfl))
     try simp only[Act.put,cZ,dh,dw]
     refine gK 8 ?_ rfl (by kernel_rfl) (fun _ _ _ h=>h) ?_ (by assumption) ?_
     rotate_left
     ·intro w hSw;(try dsimp only at hSw);obtain⟨⟨s0,s1,s2,s3,s4⟩,s5,s6,s7,s8,s9⟩:=hSw;go_simp;(try(with_reducible rfl))
     try simp only[Act.put,cZ,dh,dw]
     refine gK 9 ?_ rfl (by kernel_rfl) (fun _ _ _ h=>h) ?_ (by assumption) ?_
     rotate_left
     ·intro w hSw;(try dsimp only at hSw);obtain⟨⟨s0,s1,s2,s3,s4⟩,s5,s6,s7,s8,s9⟩:=hSw;go_simp;(try(with_reducible rfl))
     try simp only[Act.put,cZ,dh,dw]
     refine gK 10 ?_ rfl (by kernel_rfl) (fun _ _ _ h=>h) ?_ (by assumption) ?_
     rotate_left
     ·intro w hSw;(try dsimp only at hSw);obtain⟨⟨s0,s1,s2,s3,s4⟩,s5,s6,s7,s8,s9⟩:=hSw;go_simp;(try(with_reducible rfl))
     try simp only[Act.put,cZ,dh,dw]
     refine gK 11 ?_ rfl (by kernel_rfl) (fun _ _ _ h=>h) ?_ (by assumption) ?_
     rotate_left
     ·intro w hSw;(try dsimp only at hSw);obtain⟨⟨s0,s1,s2,s3,s4⟩,s5,s6,s7,s8,s9⟩:=hSw;go_simp;(try(with_reducible rfl))
     try simp only[Act.put,cZ,dh,dw]
     refine gK 13 ?_ rfl (by kernel_rfl) (fun _ _ _ h=>h) ?_ (by assumption) ?_
     rotate_left
     ·intro w hSw;(try dsimp only at hSw);obtain⟨⟨s0,s1,s2,s3,s4⟩,s5,s6,s7,s8,s9⟩:=hSw;go_simp;(try(with_reducible rfl))
     try simp only[Act.put,cZ,dh,dw]
     refine gK 14 ?_ rfl (by kernel_rfl) (fun _ _ _ h=>h) ?_ (by assumption) ?_
     rotate_left
     ·intro w hSw;(try dsimp only at hSw);obtain⟨⟨s0,s1,s2,s3,s4⟩,s5,s6,s7,s8,s9⟩:=hSw;go_simp;(try(with_reducible rfl))
     try simp only[Act.put,cZ,dh,dw]
     refine gK 15 ?_ rfl (by kernel_rfl) (fun _ _ _ h=>h) ?_ (by assumption) ?_
     rotate_left
     ·intro w hSw;(try dsimp only at hSw);obtain⟨⟨s0,s1,s2,s3,s4⟩,s5,s6,s7,s8,s9⟩:=hSw;go_simp;(try(with_reducible rfl))
     try simp only[Act.put,cZ,dh,dw]
     refine gK 16 ?_ rfl (by kernel_rfl) (fun _ _ _ h=>h) ?_ (by assumption) ?_
     rotate_left
     ·intro w hSw;(try dsimp only at hSw);obtain⟨⟨s0,s1,s2,s3,s4⟩,s5,s6,s7,s8,s9⟩:=hSw;go_simp;(try(with_reducible rfl))
     try simp only[Act.put,cZ,dh,dw]
     refine qR 12 (by kernel_rfl) rfl fun K hK=>?_
     go_simp
     (go_at_call 22;(with_reducible refine(HH2.out _ HJ.out).mono ?_);rintro e W7 ⟨rfl,hI⟩;clear HJ;have HJ:=hid hI;clear hI)
     go_wp2_with fail
     refine hK.out _ _ ?_ (fun hHeld=>?_)
     ·exact CS.out _ HJ.out
     clear hK K
     try simp only[Act.put,cZ,dh,dw]
     refine qR 17 (by kernel_rfl) rfl fun K hK=>?_
     go_simp
     (go_at_call 22;(with_reducible refine(HH3.out _ HJ.out).mono ?_);rintro e W7 ⟨rfl,hI⟩;clear HJ;have HJ:=hid hI;clear hI)
     go_wp2_with fail
     refine hK.out _ _ ?_ (fun hHeld=>?_)
     ·exact CS.out _ HJ.out
     clear hK K
     try simp only[Act.put,cZ,dh,dw]
     refine gK 18 ?_ rfl (by kernel_rfl) (fun _ _ _ h=>h) ?_ (by assumption) ?_
     rotate_left
     ·intro w hSw;(try dsimp only at hSw);obtain⟨⟨s0,s1,s2,s3,s4⟩,s5,s6,s7,s8,s9⟩:=hSw;go_simp;(try(with_reducible rfl))
     try simp only[Act.put,cZ,dh,dw]
     refine gK 19 ?_ rfl (by kernel_rfl) (fun _ _ _ h=>h) ?_ (by assumption) ?_
     rotate_left
     ·intro w hSw;(try dsimp only at hSw);obtain⟨⟨s0,s1,s2,s3,s4⟩,s5,s6,s7,s8,s9⟩:=hSw;go_simp;(try(with_reducible rfl))
     try simp only[Act.put,cZ,dh,dw]
     refine gK 20 ?_ rfl (by kernel_rfl) (fun _ _ _ h=>h) ?_ (by assumption) ?_
     rotate_left
     ·intro w hSw;(try dsimp only at hSw);obtain⟨⟨s0,s1,s2,s3,s4⟩,s5,s6,s7,s8,s9⟩:=hSw;go_simp;(try(with_reducible rfl))
     try simp only[Act.put,cZ,dh,dw]
     refine gK 21 ?_ rfl (by kernel_rfl) (fun _ _ _ h=>h) ?_ (by assumption) ?_
     rotate_left
     ·intro w hSw;(try dsimp only at hSw);obtain⟨⟨s0,s1,s2,s3,s4⟩,s5,s6,s7,s8,s9⟩:=hSw;go_simp;(try(with_reducible rfl))
     try simp only[Act.put,cZ,dh,dw]
     refine qR 22 (by kernel_rfl) rfl fun K hK=>?_
     go_simp
     (go_at_call 12;(with_reducible refine(HH4.out _ HJ.out).mono ?_);rintro e W7 ⟨rfl,hI⟩;clear HJ;have HJ:=hid hI;clear hI)
     go_wp2_with fail
     refine hK.out _ _ ?_ (fun hHeld=>?_)
     ·exact CS.out _ HJ.out
     clear hK K
     try simp only[Act.put,cZ,dh,dw]
     refine gK 23 ?_ rfl (by kernel_rfl) (fun _ _ _ h=>h) ?_ (by assumption) ?_
     rotate_left
     ·intro w hSw;(try dsimp only at hSw);obtain⟨⟨s0,s1,s2,s3,s4⟩,s5,s6,s7,s8,s9⟩:=hSw;go_simp;(try(with_reducible rfl))
     try simp only[Act.put,cZ,dh,dw]
     refine gK 24 ?_ rfl (by kernel_rfl) (fun _ _ _ h=>h) ?_ (by assumption) ?_
     rotate_left
     ·intro w hSw;(try dsimp only at hSw);obtain⟨⟨s0,s1,s2,s3,s4⟩,s5,s6,s7,s8,s9⟩:=hSw;go_simp;(try(with_reducible rfl))
     try simp only[Act.put,cZ,dh,dw]
     refine WH 25 rfl (by kernel_rfl) (fun _ _ _ h=>h) (by assumption) ?_
     try simp only[Act.put,cZ,dh,dw]
     refine WH 26 rfl (by kernel_rfl) (fun _ _ _ h=>h) (by assumption) ?_
     try simp only[Act.put,cZ,dh,dw]
     refine WH 27 rfl (by kernel_rfl) (fun _ _ _ h=>h) (by assumption) ?_
     try simp only[Act.put,cZ,dh,dw]
     refine WH 28 rfl (by kernel_rfl) (fun _ _ _ h=>h) (by assumption) ?_
     try simp only[Act.put,cZ,dh,dw]
     refine WH 29 rfl (by kernel_rfl) (fun _ _ _ h=>h) (by assumption) ?_
     try simp only[Act.put,cZ,dh,dw]
     refine WH 30 rfl (by kernel_rfl) (fun _ _ _ h=>h) (by assumption) ?_
     try simp only[Act.put,cZ,dh,dw]
     refine WH 31 rfl (by kernel_rfl) (fun _ _ _ h=>h) (by assumption) ?_
     try simp only[Act.put,cZ,dh,dw]
     refine WH 32 rfl (by kernel_rfl) (fun _ _ _ h=>h) (by assumption) ?_
     try simp only[Act.put,cZ,dh,dw]
     refine WH 33 rfl (by kernel_rfl) (fun _ _ _ h=>h) (by assumption) ?_
     try simp only[Act.put,cZ,dh,dw]
     refine WH 34 rfl (by kernel_rfl) (fun _ _ _ h=>h) (by assumption) ?_
     try simp only[Act.put,cZ,dh,dw]
     refine WH 35 rfl (by kernel_rfl) (fun _ _ _ h=>h) (by assumption) ?_
     try simp only[Act.put,cZ,dh,dw]
     refine WH 36 rfl (by kernel_rfl) (fun _ _ _ h=>h) (by assumption) ?_
     try simp only[Act.put,cZ,dh,dw]
     refine WH 37 rfl (by kernel_rfl) (fun _ _ _ h=>h) (by assumption) ?_
     try simp only[Act.put,cZ,dh,dw]
     refine gK 38 ?_ rfl (by kernel_rfl) (fun _ _ _ h=>h) ?_ (by assumption) ?_
     rotate_left
     ·intro w hSw;(try dsimp only at hSw);obtain⟨⟨s0,s1,s2,s3,s4⟩,s5,s6,s7,s8,s9⟩:=hSw;go_simp;(try(with_reducible rfl))
     try simp only[Act.put,cZ,dh,dw]
     refine qR 39 (by kernel_rfl) rfl fun K hK=>?_
     go_simp
     refine hK.out _ _ ?_ (fun hHeld=>?_)
     ·exact CS.out _ HJ.out
     clear hK K
     try simp only[Act.put,cZ,dh,dw]
     refine qR 40 (by kernel_rfl) rfl fun K hK=>?_
     go_simp
     refine hK.out _ _ ?_ (fun hHeld=>?_)
     ·exact CS.out _ HJ.out
     clear hK K
     try simp only[Act.put,cZ,dh,dw]
     refine wpAnyH_done (by kernel_rfl) ?_ _;clear p0 p1 p2 p3 p4 q0 q1 q2 q3 q4;go_wp2_with fail
     go_ret
     exact⟨rfl,ay aY.out (ay HVU.out (ay Qg.out HJ.out))⟩
    ·have HH5:Hid (∀W':World,Below rX.heap.size rX W'->Calls Tryz.prog 20 #[.slice AS n cS,.slice AM L.length cM,.int .i64 (a:Int),.int .i64 x,.agg #[.int .i64 g.op,.string g.name,.int .i64 g.val,.int .i64 g.bound,.slice AG g.args.length cG]] W' fun e w'=>e = .returned (.bool r)/\Below rX.heap.size rX w'):=hid fun X hb=>by
      obtain⟨hm0,hx0,hx1,hx2,hx3,hx4,hx5⟩:=HXM.out X hb;refine(KN l AS cS n M AM cM L.length a x g _ X HN.out hx3 HML.out.symm hm0 HMB.out hx4 hx5 (by rw[<-HP.out];exact qy.out) HXB.out.1 (by rw[Xp.out];exact HXB.out.2) hx1 qcO.out (by rw[HGPA.out];exact Iq.out) (fun y hy=>by rw[<-HM.out];exact(kZ qcO.out).2 hy)).mono ?_;rintro e w' ⟨rfl,hb'⟩;exact⟨by rw[HR2.out],ay hb hb'⟩
     have HH6:Hid (∀W':World,Below rX.heap.size rX W'->Calls Tryz.prog 20 #[.slice AS n cS,.slice AN L.length cN,.int .i64 (a:Int),.int .i64 x,.agg #[.int .i64 f.op,.string f.name,.int .i64 f.val,.int .i64 f.bound,.slice AF f.args.length cF]] W' fun e w'=>e = .returned (.bool r)/\Below rX.heap.size rX w'):=hid fun X hb=>by
      obtain⟨hm0,hx0,hx1,hx2,hx3,hx4,hx5⟩:=HXM.out X hb;refine(KN l AS cS n L AN cN L.length a x f _ X HN.out hx3 rfl hx0 Ip.out hx4 hx5 (by rw[<-HP.out];exact qy.out) HXB.out.1 (by rw[Xp.out];exact HXB.out.2) hx2 H2.out Iq.out (fun y hy=>by rw[<-HL.out];exact(kZ H2.out).2 hy)).mono ?_;rintro e w' ⟨rfl,hb'⟩;exact⟨by rw[HR.out],ay hb hb'⟩
     cases r
     all_goals
      go_region_held3 (fun W':World=>(W'.cell? ⟨w.heap.size,0,none⟩=some (.int .i64 f.op)/\W'.cell? ⟨w.heap.size,1,none⟩=some (.string f.name)/\W'.cell? ⟨w.heap.size,2,none⟩=some (.int .i64 f.val)/\W'.cell? ⟨w.heap.size,3,none⟩=some (.int .i64 f.bound)/\W'.cell? ⟨w.heap.size,4,none⟩=some (.slice AF f.args.length cF))/\(W'.cell? ⟨gb,0,none⟩=some (.int .i64 g.op)/\W'.cell? ⟨gb,1,none⟩=some (.string g.name)/\W'.cell? ⟨gb,2,none⟩=some (.int .i64 g.val)/\W'.cell? ⟨gb,3,none⟩=some (.int .i64 g.bound)/\W'.cell? ⟨gb,4,none⟩=some (.slice AG g.args.length cG)))
       (first|(with_reducible exact CS.out _ hI)|(go_keep;done))
       (first
        | (go_at_call 18;(with_reducible refine(HH1.out _ (by first|exact HI0.out|exact HI1.out|exact HI2.out _)).mono ?_);rintro e W9 ⟨rfl,hI⟩)
        | (go_at_call 22;(with_reducible refine(HH2.out _ hI).mono ?_);rintro e W9 ⟨rfl,wG⟩;clear hI;have hI:=wG;clear wG)
        | (go_at_call 22;(with_reducible refine(HH3.out _ hI).mono ?_);rintro e W9 ⟨rfl,wG⟩;clear hI;have hI:=wG;clear wG)
        | (go_at_call 12;(with_reducible refine(HH4.out _ hI).mono ?_);rintro e W9 ⟨rfl,wG⟩;clear hI;have hI:=wG;clear wG)
        | (go_at_call 20;(with_reducible refine(HH5.out _ hI).mono ?_);rintro e W9 ⟨rfl,wG⟩;clear hI;have hI:=wG;clear wG)
        | (go_at_call 20;(with_reducible refine(HH6.out _ hI).mono ?_);rintro e W9 ⟨rfl,wG⟩;clear hI;have hI:=wG;clear wG))
      all_goals
       have HJ:=hid hI;clear hI p0 p1 p2 p3 p4 q0 q1 q2 q3 q4;go_wp2_with fail
       go_ret
       exact⟨rfl,ay aY.out (ay HVU.out (ay Qg.out HJ.out))⟩
end Go.Proofs.YtdpbgcmfeajigaaGreatDoor
