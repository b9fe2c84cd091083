/-
  Parts of a proof: QN QP QS QT.
-/
import Derived.Test.YtdpbgcmfeajigaaGreatDoorD34
import Derived.ProofKit
import Derived.SizedLaws
import Derived.Deep.Slices
import Derived.Deep.Matrix
import Derived.Deep.Fields
import Derived.Lib.SmallJoins
import Derived.Test.YtdpbgcmfeajigaaGreatDoorD24
set_option linter.unusedSimpArgs false
set_option linter.unusedVariables false
set_option maxHeartbeats 8000000
set_option maxRecDepth 100000
namespace Go.Proofs.YtdpbgcmfeajigaaGreatDoor
noncomputable def before (l:List Sg)(W:lQ)(x:Fm):Nat->Bool
 | 0=>decide (x.val=1)
 | t+1=>qfU (Le l W) (kP x) t
theorem Yw {x:Fm}(hb:Bare x)(he:x.op=15):kP x∈x.args:=by
 unfold kP;rw[if_pos he];exact cZ (by have:=(ug hb).1 (.inr (.inr he));omega)
open Go.ChangeShapes Go.WideShapes Go.RowKit Go.Deep Go.Joins
section
variable {H:Type}{enc:TypeId×Value->H}{w:World}{base:Nat}{held:Bool}
end
theorem Yg {f:Fm}(h:aV f=true)(hf:bG (kf true f) 400 60=true):aV (kf true f)=true:=by
 unfold aV at h;rw[Bool.and_eq_true]at h
 have hs:allI qI false f:=rZ (fun x hx=>by
  unfold bH at hx;unfold qI;simp only[Bool.and_eq_true]at hx
  exact hx.1.1.2) h.2
 have hy:allI mV false f:=rZ (fun x hx=>by
  unfold bH at hx;unfold mV;simp only[Bool.and_eq_true]at hx
  exact hx.1.2) h.2
 unfold aV;rw[hf,Bool.true_and];exact qaS f false hs hy true
theorem qa1 {f g:Fm}(h:aV f=true)(hg:Ai f=g)(h0:g.op≠0):g=kf true f/\aV g=true:=by
 unfold Ai at hg;rw[h,Bool.true_and]at hg
 by_cases hf:bG (kf true f) 400 60=true
 ·rw[if_pos hf]at hg
  exact⟨hg.symm,hg ▸ Yg h hf⟩
 ·rw[if_neg hf]at hg
  exact absurd (by rw[<-hg];rfl) h0
theorem qdv {f:Fm}(h:aV f=true)(h2:aV (kf true f)=true):Ai f=kf true f:=by
 unfold aV at h2;rw[Bool.and_eq_true]at h2;unfold Ai;rw[h,h2.1];rfl
theorem Fb {f:Fm}(h:aV f=true)(h2:aV (kf true f)=true):(bD (kf true f)).length=(bD f).length:=by
 rw[wG h h2,List.length_map]
theorem qas {f:Fm}(h:aV f=true)(h2:aV (kf true f)=true){i:Nat}(hi:i<(bD f).length):Ai ((bD f).getD i default)=(bD (kf true f)).getD i default:=by
 have h3:(bD (kf true f)).getD i default=kf true ((bD f).getD i default):=by rw[wG h h2,oH _ _ _ default _ hi]
 rw[h3];refine qdv (qA (cZ hi)).2.1 ?_;rw[<-h3];exact(qA (f:=kf true f) (cZ (by rw[Fb h h2];exact hi))).2.1
theorem Yi {x:Fm}(hr:jV x.op=true):(kf true x).val=1-x.val/\(kf true x).op=sK (oU x.op)/\(kf true x).args=x.args.map (kf true):=by
 have hp:nY x.op:=by
  unfold nY
  rcases mO.1 hr with e|e|e <;> rw[e] <;> decide
 have hk:=xJ hp;refine⟨?_,by rw[hk];rfl,by rw[hk];rfl⟩;rw[hk];show fK true x.op x.val=1-x.val;unfold jV at hr;unfold fK wC;rw[if_pos hr,if_pos rfl]
theorem Ql {f:Fm}(h:aV f=true)(h2:aV (kf true f)=true):uK (bD f)+uK (bD (kf true f))=2 ^ (bD f).length-1:=by
 have e:wQ (bD (kf true f))=(wQ (bD f)).map (!·):=by
  unfold wQ;rw[wG h h2,List.map_map,List.map_map];refine List.map_congr_left fun x hx=>?_;have hp:=(nK h).1 hx;have hv:=YB h hp;simp only[Function.comp];rw[(Yi (BU hp)).1]
  rcases hv with e|e <;> rw[e] <;> rfl
 have:=Jd (wQ (bD f));unfold uK;rw[e];unfold wQ at this⊢;rw[List.length_map]at this;omega
theorem IG {f:Fm}(h:aV f=true)(h2:aV (kf true f)=true){a:Nat}(ha:a<2 ^ (bD f).length){x:Fm}(hx:x∈aZ f) :
  cu (bD (kf true f)) (2 ^ (bD f).length-1-a) (kf true x) = !cu (bD f) a x:=by
 have h1:=qQ.2 ((nK h).2 hx);have h3:=pG h1;have h4:(bD (kf true f)).getD (jy x (bD f)) default=kf true x:=by rw[wG h h2,oH _ _ _ default _ h1,h3]
 have h5:=Jf (Ah (kf true f)) (i:=jy x (bD f)) (by rw[Fb h h2];exact h1);rw[h4]at h5;unfold cu;rw[h5];exact Ug ha h1
theorem Uu {x:Fm}(hb:Bare x)(hr:jV x.op=true):kP (kf true x)=kf true (kP x):=by
 obtain⟨_,ho,ha⟩:=Yi hr;unfold kP;rw[ho,ha]
 rcases mO.1 hr with e|e|e
 ·have h1:=Ju hb e
  rw[e,if_pos (by decide),if_pos rfl,oH _ _ _ default _ (by omega)]
 ·rw[e,if_neg (by decide),if_neg (by decide)]
 ·rw[e,if_neg (by decide),if_neg (by decide)]
theorem Va {x:Fm}(hb:aV x=true)(hp:allB dO x=true):aV (kP x)=true/\allB dO (kP x)=true:=by
 by_cases e:x.op=15
 ·have hm:=Yw (fG hb) e
  exact⟨xP hm hb,tq hp hm⟩
 ·have:kP x=x:=by unfold kP;rw[if_neg e]
  rw[this];exact⟨hb,hp⟩
theorem Uw {sg:ByteArray->Int->Bool}{f:Fm}(h:aV f=true)(h2:aV (kf true f)=true){a:Nat}(ha:a<2 ^ (bD f).length) :
  sZ sg (bD f) a+sZ sg (bD (kf true f)) (2 ^ (bD f).length-1-a)=2 ^ (bD f).length-1:=by
 have e:Dz sg (bD (kf true f)) (2 ^ (bD f).length-1-a)=(Dz sg (bD f) a).map (!·):=by
  unfold Dz
  conv=>lhs;arg 2;rw[wG h h2]
  rw[List.map_map,List.map_map];refine List.map_congr_left fun x hx=>?_;have hp:=(nK h).1 hx;obtain⟨_,k1,k2,k3⟩:=qA hx;simp only[Function.comp];rw[Uu (fG k1) k2];obtain⟨m1,m2⟩:=Va k1 k3;exact YD _ (fG m1) m2 fun y hy=>IG h h2 ha (Vb hp (fG k1) hy)
 have:=Jd (Dz sg (bD f) a);unfold sZ;rw[e];unfold Dz at this⊢;rw[List.length_map]at this;omega
theorem XD {sg:ByteArray->Int->Bool}{f:Fm}(h:aV f=true)(h2:aV (kf true f)=true)(hp:allB dO f=true){a:Nat}(ha:a<2 ^ (bD f).length) :
  fA sg (cu (bD (kf true f)) (2 ^ (bD f).length-1-a)) (kf true f) = !fA sg (cu (bD f) a) f :=
 YD f (fG h) hp fun x hx=>IG h h2 ha hx
theorem Ux {f:Fm}(h:aV f=true)(h2:aV (kf true f)=true)(hp:allB dO f=true):allB dO (kf true f)=true:=by
 have key:∀f:Fm,Bare f->allB dO f=true->allB dO (kf true f)=true:=by
  intro f;refine Fm.sV (P:=fun f=>Bare f->allB dO f=true->allB dO (kf true f)=true) ?_ f;intro f ih hb hp;have hq:=Il hp
  rcases jk hb.node.1 with hpl|h3|h4
  ·have hk:=xJ hpl
   refine Ji ?_ fun g hg=>?_
   ·rw[hk]
    show(aA (aY true f.op)).future=false;have hf:(aA f.op).future=false:=by unfold dO at hq;simpa using hq
    rcases hpl with e|e|e|e|e|e|e|e|e|e <;> rw[e]at hf⊢ <;> first|rfl|cases hf
   ·rw[hk]at hg
    obtain⟨y,hy,rfl⟩:=List.mem_map.1 (show g∈f.args.map (kf true)from hg);exact ih y hy (hb.arg hy) (tq hp hy)
  ·rw[xI hb h3,lY];rfl
  ·obtain⟨g,hf,h3,ha⟩:=FX hb h4
   have hg:Bare g:=hb.arg (by rw[ha];simp);rw[hf,uy,xI hg h3,Bool.not_true,Dt];rfl
 exact key f (fG h) hp
end Go.Proofs.YtdpbgcmfeajigaaGreatDoor
namespace Go.Proofs.YtdpbgcmfeajigaaGreatDoor
open Go.RowKit Go.Shelf
attribute [local go_sem] ak run_store_func
theorem Ny {l:List Sg}(h:dM l=true):1<=bZ l/\bZ l<=64:=by
 have h1:=(nP h l.length (Nat.le_refl _)).lo;rw[List.take_length]at h1;have h2:=(fM h).2.2.1;unfold bZ;rw[if_pos h];exact⟨h1,h2⟩
theorem qam {p n i:Nat}(hp:p=2 ^ i)(hi:i<=8):1<=p/\p<=256:=by
 subst hp;have h1:=Nat.pow_le_pow_right (n:=2) (by omega) hi;have h2:=Nat.two_pow_pos i;omega
theorem Ea {D E:Dom}(l:List Sg)(AS:Option Addr)(cS n:Nat)(f:Fm)(v:Value)(y z:Int)(w:World)(hn:n=l.length)(hG:lV w E AS cS l)(hf:bI w D v f)(hy0:0<=y)(hy1:y<=255)(hz0:0<=z)(hz1:z<=255)(hg:GF w)(hk:GK w) :
  Calls Tryz.prog 5 #[.slice AS n cS,v,.int .u8 y,.int .u8 z] w fun e w'=>e = .returned (.bool true)/\Below w.heap.size w w':=by
 obtain⟨AF,cF,rfl,hfa⟩:=hf;have HN:=hid hn;have HGL:=hid hG.old;have HF:=hid hfa.old;have HG:=hid hg;have HK:=hid hk;have HY:=hid (And.intro hy0 hy1);have HZ:=hid (And.intro hz0 hz1);clear hn hG hfa hg hk hy0 hy1 hz0 hz1
 go_enter Tryz.func5,Tryz.ntmps5
 go_upto_region 1 with(fail)
 refine aI fun U hU=>?_;have HB:=hid (show Below w.heap.size w U by rw[hU];go_grown);have HO:=hid (show OB U w.heap.size f.op f.name f.val f.bound AF f.args.length cF by rw[hU];exact at_new _ _ _ rfl);clear hU;have RZ:=hid (UK U (HG.out.below HB.out HG.out.pos) (HK.out.below HB.out HK.out.pos));go_upto_region 2 with(go_at_call 8;(with_reducible refine RZ.out.mono ?_);rintro e V ⟨rfl,je⟩;have iF:=hid je;clear je)
 have aX:=hid (au HB.out iF.out);have CQ:=hid (HO.out.below iF.out)
 have HX:Hid (∀X:World,Below V.heap.size V X->bI X bC (.agg #[.int .i64 f.op,.string f.name,.int .i64 f.val,.int .i64 f.bound,.slice AF f.args.length cF]) f/\lV X bC AS cS l/\GF X/\GK X):=hid fun X hb =>
  ⟨⟨AF,cF,rfl,HF.out.any (au aX.out hb)⟩,HGL.out.any (au aX.out hb),HG.out.below (au aX.out hb) HG.out.pos,HK.out.below (au aX.out hb) HK.out.pos⟩
 clear HO RZ iF HB HF HG HK HGL;obtain⟨t0,t1,t2,t3,t4,t5⟩:=CQ.out.cells;obtain⟨r1,hr1⟩:∃r,decide (f.size<=120)=r:=⟨_,rfl⟩;obtain⟨r2,hr2⟩:∃r,aV f=r:=⟨_,rfl⟩;obtain⟨r3,hr3⟩:∃r,dM l=r:=⟨_,rfl⟩;obtain⟨L,hL⟩:∃L,bD f=L:=⟨_,rfl⟩;have H1:=hid hr1;have H2:=hid hr2;have H3:=hid hr3;have HL:=hid hL
 have Ie:Hid (∀X,Below V.heap.size V X->Calls Tryz.prog 9 #[.agg #[.int .i64 f.op,.string f.name,.int .i64 f.val,.int .i64 f.bound,.slice AF f.args.length cF],.int .i64 120] X fun e w'=>e = .returned (.bool r1)/\Below V.heap.size V w'):=hid fun X hb=>by
  obtain⟨hx1,hx2,hx3,hx4⟩:=HX.out X hb;refine(Ob (D:=bC) f _ 120 120 X rfl hx1 (by omega) r1 H1.out).mono ?_;rintro e w' ⟨rfl,hb'⟩;exact⟨rfl,au hb hb'⟩
 have HC2:Hid (∀X,Below V.heap.size V X->Calls Tryz.prog 11 #[.agg #[.int .i64 f.op,.string f.name,.int .i64 f.val,.int .i64 f.bound,.slice AF f.args.length cF]] X fun e w'=>e = .returned (.bool r2)/\Below V.heap.size V w'):=hid fun X hb=>by
  obtain⟨hx1,hx2,hx3,hx4⟩:=HX.out X hb;refine(FQ f _ X hx1 r2 H2.out).mono ?_;rintro e w' ⟨rfl,hb'⟩;exact⟨rfl,au hb hb'⟩
 have Ba:Hid (∀X,Below V.heap.size V X->Calls Tryz.prog 23 #[.slice AS n cS] X fun e w'=>e = .returned (.bool r3)/\Below V.heap.size V w'):=hid fun X hb=>by
  obtain⟨hx1,hx2,hx3,hx4⟩:=HX.out X hb;refine(DL l AS cS n X HN.out hx2).mono ?_;rintro e w' ⟨rfl,hb'⟩;exact⟨by rw[H3.out],au hb hb'⟩
 have zo:Hid (∀X,Below V.heap.size V X->Calls Tryz.prog 24 #[.agg #[.int .i64 f.op,.string f.name,.int .i64 f.val,.int .i64 f.bound,.slice AF f.args.length cF]] X fun e w'=>(∃A c,e = .returned (.slice A L.length c))/\Below V.heap.size V w'):=hid fun X hb=>by
  obtain⟨hx1,hx2,hx3,hx4⟩:=HX.out X hb;refine(Oa (D:=bC) f _ X hx1).mono ?_;rintro e w' ⟨A,c,rfl,_,hb'⟩;rw[HL.out];exact⟨⟨A,c,rfl⟩,au hb hb'⟩
 clear hr1 hr2 hr3 hL;cases r1
 ·go_wp2_with (first|(go_at_call 9;(with_reducible refine(Ie.out _ (Below.refl _ _)).mono ?_);rintro e V1 ⟨rfl,hb2⟩;clear t0 t1 t2 t3 t4 t5;obtain⟨t0,t1,t2,t3,t4,t5⟩:=(CQ.out.below hb2).cells;have lU:=hid hb2;clear hb2))
  go_ret
  exact⟨rfl,au aX.out lU.out⟩
 cases r2
 ·go_wp2_with (first|(go_at_call 9;(with_reducible refine(Ie.out _ (Below.refl _ _)).mono ?_);rintro e V1 ⟨rfl,hb2⟩;clear t0 t1 t2 t3 t4 t5;obtain⟨t0,t1,t2,t3,t4,t5⟩:=(CQ.out.below hb2).cells;have lU:=hid hb2;clear hb2)|(go_at_call 11;(with_reducible refine(HC2.out _ lU.out).mono ?_);rintro e V2 ⟨rfl,hb2⟩;clear t0 t1 t2 t3 t4 t5;obtain⟨t0,t1,t2,t3,t4,t5⟩:=(CQ.out.below hb2).cells;have rV:=hid hb2;clear hb2))
  go_ret
  exact⟨rfl,au aX.out rV.out⟩
 cases r3
 ·go_wp2_with (first|(go_at_call 9;(with_reducible refine(Ie.out _ (Below.refl _ _)).mono ?_);rintro e V1 ⟨rfl,hb2⟩;clear t0 t1 t2 t3 t4 t5;obtain⟨t0,t1,t2,t3,t4,t5⟩:=(CQ.out.below hb2).cells;have lU:=hid hb2;clear hb2)|(go_at_call 11;(with_reducible refine(HC2.out _ lU.out).mono ?_);rintro e V2 ⟨rfl,hb2⟩;clear t0 t1 t2 t3 t4 t5;obtain⟨t0,t1,t2,t3,t4,t5⟩:=(CQ.out.below hb2).cells;have rV:=hid hb2;clear hb2)|(go_at_call 23;(with_reducible refine(Ba.out _ rV.out).mono ?_);rintro e V3 ⟨rfl,hb2⟩;clear t0 t1 t2 t3 t4 t5;obtain⟨t0,t1,t2,t3,t4,t5⟩:=(CQ.out.below hb2).cells;have HV3:=hid hb2;clear hb2))
  go_ret
  exact⟨rfl,au aX.out HV3.out⟩
 rcases Nat.lt_or_ge 8 L.length with h8|h8
 ·have hi8:(8:Int)<(L.length:Int):=by omega
  have di8:=decide_eq_true hi8;clear h8
  go_wp2_with (first|(go_at_call 9;(with_reducible refine(Ie.out _ (Below.refl _ _)).mono ?_);rintro e V1 ⟨rfl,hb2⟩;clear t0 t1 t2 t3 t4 t5;obtain⟨t0,t1,t2,t3,t4,t5⟩:=(CQ.out.below hb2).cells;have lU:=hid hb2;clear hb2)|(go_at_call 11;(with_reducible refine(HC2.out _ lU.out).mono ?_);rintro e V2 ⟨rfl,hb2⟩;clear t0 t1 t2 t3 t4 t5;obtain⟨t0,t1,t2,t3,t4,t5⟩:=(CQ.out.below hb2).cells;have rV:=hid hb2;clear hb2)|(go_at_call 23;(with_reducible refine(Ba.out _ rV.out).mono ?_);rintro e V3 ⟨rfl,hb2⟩;clear t0 t1 t2 t3 t4 t5;obtain⟨t0,t1,t2,t3,t4,t5⟩:=(CQ.out.below hb2).cells;have HV3:=hid hb2;clear hb2)|(go_at_call 24;(with_reducible refine(zo.out _ HV3.out).mono ?_);rintro e V4 ⟨⟨AQ,cQ,rfl⟩,hb2⟩;clear t0 t1 t2 t3 t4 t5;obtain⟨t0,t1,t2,t3,t4,t5⟩:=(CQ.out.below hb2).cells;have HV4:=hid hb2;clear hb2))
  go_ret
  exact⟨rfl,au aX.out HV4.out⟩
 have hi8:¬(8:Int)<(L.length:Int):=by omega
 have di8:=decide_eq_false hi8;have OA:=hid h8;have HS120:=hid (show f.size<=120 from of_decide_eq_true H1.out);obtain⟨g,hg⟩:∃g,Ai f=g:=⟨_,rfl⟩;have HGN:=hid hg
 have HC5:Hid (∀X,Below V.heap.size V X->Calls Tryz.prog 25 #[.agg #[.int .i64 f.op,.string f.name,.int .i64 f.val,.int .i64 f.bound,.slice AF f.args.length cF]] X fun e w'=>(∃AG cG,e = .returned (.agg #[.int .i64 g.op,.string g.name,.int .i64 g.val,.int .i64 g.bound,.slice AG g.args.length cG])/\bP w' (Nw X.heap.size w') g.args AG cG)/\Below V.heap.size V w'):=hid fun X hb=>by
  obtain⟨hx1,hx2,hx3,hx4⟩:=HX.out X hb;refine(not_any (D:=bC) f _ X hx1 hx3 hx4).mono ?_;rintro e w' ⟨kv,rfl,hb',A,c,rfl,ha⟩;rw[HGN.out]at ha⊢;exact⟨⟨A,c,rfl,ha⟩,au hb hb'⟩
 clear hg h8
 go_upto_region 5 with(first|(go_at_call 9;(with_reducible refine(Ie.out _ (Below.refl _ _)).mono ?_);rintro e V1 ⟨rfl,hb2⟩;clear t0 t1 t2 t3 t4 t5;obtain⟨t0,t1,t2,t3,t4,t5⟩:=(CQ.out.below hb2).cells;have lU:=hid hb2;clear hb2)|(go_at_call 11;(with_reducible refine(HC2.out _ lU.out).mono ?_);rintro e V2 ⟨rfl,hb2⟩;clear t0 t1 t2 t3 t4 t5;obtain⟨t0,t1,t2,t3,t4,t5⟩:=(CQ.out.below hb2).cells;have rV:=hid hb2;clear hb2)|(go_at_call 23;(with_reducible refine(Ba.out _ rV.out).mono ?_);rintro e V3 ⟨rfl,hb2⟩;clear t0 t1 t2 t3 t4 t5;obtain⟨t0,t1,t2,t3,t4,t5⟩:=(CQ.out.below hb2).cells;have HV3:=hid hb2;clear hb2)|(go_at_call 24;(with_reducible refine(zo.out _ HV3.out).mono ?_);rintro e V4 ⟨⟨AQ,cQ,rfl⟩,hb2⟩;clear t0 t1 t2 t3 t4 t5;obtain⟨t0,t1,t2,t3,t4,t5⟩:=(CQ.out.below hb2).cells;have HV4:=hid hb2;clear hb2)|(go_at_call 25;(with_reducible refine(HC5.out _ HV4.out).mono ?_);rintro e V5 ⟨⟨AG,cG,rfl,hga⟩,hb2⟩;clear t0 t1 t2 t3 t4 t5;obtain⟨t0,t1,t2,t3,t4,t5⟩:=(CQ.out.below hb2).cells;have HV5:=hid hb2;clear hb2;have VP:=hid hga;clear hga))
 refine aI fun U2 hU2=>?_;have hb:=(show Below V5.heap.size V5 U2 by rw[hU2];go_grown);have HU2:=hid (au HV5.out hb);have HOG:=hid (show OB U2 V5.heap.size g.op g.name g.val g.bound AG g.args.length cG by show U2.heap[_]?=_;rw[hU2];exact at_new _ _ _ rfl);have HGA2:=hid (show bP U2 (fun _=>True) g.args AG cG from VP.out.any hb);clear hU2 hb VP lU rV HV3 HV4 Ie HC2 Ba zo HC5 di8 hi8 t0 t1 t2 t3 t4 t5;obtain⟨gb,hgb⟩:∃x,V5.heap.size=x:=⟨_,rfl⟩;rw[hgb]at HOG;rw[hgb];clear hgb HV5;obtain⟨q0,q1,q2,q3,q4,q5⟩:=HOG.out.cells
 by_cases h0:g.op=0
 ·have dq:(g.op==0)=true:=by rw[h0];rfl
  go_wp2_with fail
  go_ret
  exact⟨rfl,au aX.out HU2.out⟩
 have dq:(g.op==0)=false:=by simpa using h0
 have Wx:=hid (qa1 H2.out HGN.out h0);have Lu:=hid (show aV (kf true f)=true by have:=Wx.out.2;rwa [Wx.out.1]at this)
 have SA:Hid (∀X:World,Below U2.heap.size U2 X->bI X bC (.agg #[.int .i64 g.op,.string g.name,.int .i64 g.val,.int .i64 g.bound,.slice AG g.args.length cG]) g/\bI X bC (.agg #[.int .i64 f.op,.string f.name,.int .i64 f.val,.int .i64 f.bound,.slice AF f.args.length cF]) f/\lV X bC AS cS l/\GF X/\GK X):=hid fun X hb=>by
  obtain⟨hx1,hx2,hx3,hx4⟩:=HX.out X (au HU2.out hb);exact⟨⟨AG,cG,rfl,HGA2.out.any hb⟩,hx1,hx2,hx3,hx4⟩
 obtain⟨M,hM⟩:∃M,bD g=M:=⟨_,rfl⟩;have HM:=hid hM;have ZO:=hid (show M.length=L.length by rw[<-HM.out,Wx.out.1,Fb H2.out Lu.out,HL.out])
 have HC6:Hid (∀(X:World),Below U2.heap.size U2 X->Calls Tryz.prog 10 #[.agg #[.int .i64 f.op,.string f.name,.int .i64 f.val,.int .i64 f.bound,.slice AF f.args.length cF]] X fun e w'=>(∃A c,e = .returned (.slice A L.length c)/\bP w' (Cl w') L A c)/\Below X.heap.size X w'):=hid fun X hb=>by
  obtain⟨hx0,hx1,hx2,hx3,hx4⟩:=SA.out X hb;refine(BQ (D:=bC) f _ X hx1 hx3 hx4).mono ?_;rintro e w' ⟨A,c,rfl,ha,hb'⟩;rw[HL.out]at ha⊢;exact⟨⟨A,c,rfl,ha.mono fun _ h _=>h.2⟩,hb'⟩
 have Po:Hid (∀(X:World),Below U2.heap.size U2 X->Calls Tryz.prog 10 #[.agg #[.int .i64 g.op,.string g.name,.int .i64 g.val,.int .i64 g.bound,.slice AG g.args.length cG]] X fun e w'=>(∃A c,e = .returned (.slice A L.length c)/\bP w' (Cl w') M A c)/\Below X.heap.size X w'):=hid fun X hb=>by
  obtain⟨hx0,hx1,hx2,hx3,hx4⟩:=SA.out X hb;refine(BQ (D:=bC) g _ X hx0 hx3 hx4).mono ?_;rintro e w' ⟨A,c,rfl,ha,hb'⟩;rw[HM.out]at ha⊢;rw[ZO.out];exact⟨⟨A,c,rfl,ha.mono fun _ h _=>h.2⟩,hb'⟩
 clear hM h0;have WO:=hid (CQ.out.below HU2.out);obtain⟨t0,t1,t2,t3,t4,t5⟩:=WO.out.cells
 go_upto_region 11 with(first
  | (go_at_call 10;(with_reducible refine(HC6.out _ (Below.refl _ _)).mono ?_);rintro e V6 ⟨⟨AN,cN,rfl,ha⟩,hb2⟩;clear t0 t1 t2 t3 t4 t5 q0 q1 q2 q3 q4 q5;obtain⟨t0,t1,t2,t3,t4,t5⟩:=(WO.out.below hb2).cells;obtain⟨q0,q1,q2,q3,q4,q5⟩:=(HOG.out.below hb2).cells;have HV6:=hid hb2;have HNA:=hid ha;clear hb2 ha)
  | (go_at_call 10;(with_reducible refine(Po.out _ HV6.out).mono ?_);rintro e V7 ⟨⟨AM,cM,rfl,ha⟩,hb7⟩;have hb2:=au HV6.out hb7;clear t0 t1 t2 t3 t4 t5 q0 q1 q2 q3 q4 q5;obtain⟨t0,t1,t2,t3,t4,t5⟩:=(WO.out.below hb2).cells;obtain⟨q0,q1,q2,q3,q4,q5⟩:=(HOG.out.below hb2).cells;have HV7:=hid hb2;have HW7:=hid hb7;clear hb7;have HMA:=hid ha;clear hb2 ha))
 have HOF3:=hid (WO.out.below HV7.out);have HOG3:=hid (HOG.out.below HV7.out)
 have Eh:Hid (∀X:World,Below V7.heap.size V7 X->bP X (Cl X) L AN cN/\bP X (Cl X) M AM cM):=hid fun X hb=>by
  have h1:=HNA.out;have h2:=HMA.out;exact⟨h1.aW (au HW7.out hb),h2.aW hb⟩
 clear t0 t1 t2 t3 t4 t5 q0 q1 q2 q3 q4 q5 HOG WO HC6 Po dq;have hLb:=OA.out;go_upto_region 13 with(fail)
 go_loopw [13,14] (fun r q wr=>∃i p:Nat,i<=L.length/\p=2 ^ i/\r = .int .i64 (p:Int)/\q = .int .i64 (i:Int)/\Below V7.heap.size V7 wr) (fun _ q _=>L.length-(intOf q).toNat)
 case atStart=>exact⟨0,1,Nat.zero_le _,rfl,rfl,rfl,by first|exact Below.refl _ _|go_grown⟩
 case round =>
  obtain⟨i,p,hi,hp,rfl,rfl,hbl⟩:=hrel;have bQ:=hid hbl;have HP:=hid hp;have Sz:=hid (qam (n:=0) hp (Nat.le_trans hi OA.out));clear hbl hp;have hLb:=OA.out
  by_cases hlt:i<L.length
  ·have hii:(i:Int)<(L.length:Int):=by omega
   have hj0:(0:Int)<=(i:Int):=by omega
   have hwm:IntKind.i64.wrap ((p:Int)*2)=(p:Int)*2:=IntWalk.i64_in _ (by have:=Sz.out;omega);have hw1:IntKind.i64.wrap ((i:Int)+1)=(i:Int)+1:=IntWalk.i64_in _ (by omega);have fQ:=hid hlt;have hlm:i<M.length:=by rw[ZO.out];exact hlt
   have hlc:=(Eh.out wr bQ.out).1.len.2.1;have hmc:=(Eh.out wr bQ.out).2.len.2.1;rw[ZO.out]at hmc;obtain⟨b1,o1,A',c',x,rfl,oq,hxf⟩:=(Eh.out wr bQ.out).1.get hlt;obtain⟨b2,o2,A2,c2,u,rfl,HUU,huf⟩:=(Eh.out wr bQ.out).2.get hlm;have HXF:=hid hxf;have HUF:=hid huf;have HXU:=hid (show Ai x=u by rw[<-oq.out,<-HUU.out,<-HL.out,<-HM.out,Wx.out.1];exact qas H2.out Lu.out (by rw[HL.out];exact hlt))
   have HUS:=hid (show u.size<=400 by
    have h1:u∈bD g:=by rw[HM.out,<-HUU.out];exact cZ hlm
    exact(iq (qA h1).2.1).1)
   have qcN:Hid (∀W':World,Below wr.heap.size wr W'->dP W' bC b1 (o1+i*5) x A' c'/\dP W' bC b2 (o2+i*5) u A2 c2/\bP W' (Cl W') u.args A2 c2/\GF W'/\GK W'):=hid fun W' hb=>by
    obtain⟨_,_,_,hx3,hx4⟩:=SA.out W' (au HV7.out (au bQ.out hb));exact⟨(HXF.out.old.keep (Keeps.of_below hb fun _ h=>h)).mono fun _ _ _=>trivial,(HUF.out.old.keep (Keeps.of_below hb fun _ h=>h)).mono fun _ _ _=>trivial,HUF.out.args.aW hb,hx3,hx4⟩
   have aK:Hid (∀W':World,Below wr.heap.size wr W'->(W'.cell? ⟨b1,o1+i*5,none⟩=some (.int .i64 x.op)/\W'.cell? ⟨b1,o1+i*5+1,none⟩=some (.string x.name)/\W'.cell? ⟨b1,o1+i*5+2,none⟩=some (.int .i64 x.val)/\W'.cell? ⟨b1,o1+i*5+3,none⟩=some (.int .i64 x.bound)/\W'.cell? ⟨b1,o1+i*5+4,none⟩=some (.slice A' x.args.length c'))/\(W'.cell? ⟨b2,o2+i*5,none⟩=some (.int .i64 u.op)/\W'.cell? ⟨b2,o2+i*5+1,none⟩=some (.string u.name)/\W'.cell? ⟨b2,o2+i*5+2,none⟩=some (.int .i64 u.val)/\W'.cell? ⟨b2,o2+i*5+3,none⟩=some (.int .i64 u.bound)/\W'.cell? ⟨b2,o2+i*5+4,none⟩=some (.slice A2 u.args.length c2))):=hid fun W' hb=>by
    obtain⟨hq,hs,_⟩:=qcN.out W' hb;exact⟨⟨hq.c0,hq.c1,hq.c2,hq.c3,hq.c4⟩,hs.c0,hs.c1,hs.c2,hs.c3,hs.c4⟩
   have HD1:Hid (∀W':World,Below wr.heap.size wr W'->Calls Tryz.prog 25 #[.agg #[.int .i64 x.op,.string x.name,.int .i64 x.val,.int .i64 x.bound,.slice A' x.args.length c']] W' fun e w'=>(∃A9 c9,e = .returned (.agg #[.int .i64 u.op,.string u.name,.int .i64 u.val,.int .i64 u.bound,.slice A9 u.args.length c9])/\bP w' bC u.args A9 c9)/\Below wr.heap.size wr w'):=hid fun W' hb=>by
    obtain⟨hq,_,_,hx3,hx4⟩:=qcN.out W' hb;refine(not_any (D:=bC) x _ W' (bI.cells5 hq.args) hx3 hx4).mono ?_;rintro e w' ⟨kv,rfl,hb',A,c,rfl,ha⟩;rw[HXU.out]at ha⊢;exact⟨⟨A,c,rfl,ha.any (Below.refl _ _)⟩,au hb hb'⟩
   have HD2:Hid (∀(W':World) A9 c9,Below wr.heap.size wr W'->bP W' bC u.args A9 c9->Calls Tryz.prog 16 #[.agg #[.int .i64 u.op,.string u.name,.int .i64 u.val,.int .i64 u.bound,.slice A9 u.args.length c9],.agg #[.int .i64 u.op,.string u.name,.int .i64 u.val,.int .i64 u.bound,.slice A2 u.args.length c2]] W' fun e w'=>e = .returned (.int .i64 0)/\Below wr.heap.size wr w'):=hid fun W' A9 c9 hb ha=>by
    refine(lG (D:=bC) (E:=Cl W') u u _ _ W' (bI.cells5 ha) (bI.cells5 (qcN.out W' hb).2.2.1) (by have:=HUS.out;omega) (.inr fun _ h=>h)).mono ?_;rintro e w' ⟨rfl,hb'⟩;exact⟨by rw[kV.2 rfl],au hb hb'.below⟩
   have HI0:=hid (Below.refl wr.heap.size wr);have HI1:=hid (show Below wr.heap.size wr wr.drew from(Below.refl wr.heap.size wr).drew);have HI2:=hid (show∀i,Below wr.heap.size wr (wr.drewN i)from fun i=>below_drewN (Below.refl wr.heap.size wr) i);obtain⟨⟨p0,p1,p2,p3,p4⟩,s0,s1,s2,s3,s4⟩:=aK.out wr (Below.refl _ _);have zb1:b1<wr.heap.size:=hxf.lt;have zb2:b2<wr.heap.size:=huf.lt;clear hxf huf hlt hlm;go_upto_region 16 with(fail)
   go_region_held3 (fun W':World=>(W'.cell? ⟨b1,o1+i*5,none⟩=some (.int .i64 x.op)/\W'.cell? ⟨b1,o1+i*5+1,none⟩=some (.string x.name)/\W'.cell? ⟨b1,o1+i*5+2,none⟩=some (.int .i64 x.val)/\W'.cell? ⟨b1,o1+i*5+3,none⟩=some (.int .i64 x.bound)/\W'.cell? ⟨b1,o1+i*5+4,none⟩=some (.slice A' x.args.length c'))/\(W'.cell? ⟨b2,o2+i*5,none⟩=some (.int .i64 u.op)/\W'.cell? ⟨b2,o2+i*5+1,none⟩=some (.string u.name)/\W'.cell? ⟨b2,o2+i*5+2,none⟩=some (.int .i64 u.val)/\W'.cell? ⟨b2,o2+i*5+3,none⟩=some (.int .i64 u.bound)/\W'.cell? ⟨b2,o2+i*5+4,none⟩=some (.slice A2 u.args.length c2)))
    (first|(with_reducible exact aK.out _ hI)|(go_keep;done))
    (first
     | (go_at_call 25;(with_reducible refine(HD1.out _ (by first|exact hI|exact HI0.out|exact HI1.out|exact HI2.out _)).mono ?_);rintro e W9 ⟨⟨A9,c9,rfl,hv⟩,hI⟩)
     | (go_at_call 16;(with_reducible refine(HD2.out _ _ _ hI hv).mono ?_);rintro e W9 ⟨rfl,hI9⟩;clear hI hv;have hI:=hI9;clear hI9))
   all_goals
    have HI:=hid hI;clear hI p0 p1 p2 p3 p4 s0 s1 s2 s3 s4;go_wp2_with fail
    go_roundw
    case rel=>exact⟨i+1,p*2,by have:=fQ.out;omega,by rw[HP.out,Nat.pow_succ],by go_num,by go_num,au bQ.out HI.out⟩
    case measure=>have:=fQ.out;simp[intOf];omega
  ·have hii:¬(i:Int)<(L.length:Int):=by omega
   have hil:i=L.length:=by omega
   subst hil;have PL:=hid (au HV7.out bQ.out);have qeD:=hid (HOF3.out.below bQ.out);have qeE:=hid (HOG3.out.below bQ.out);have ZX:=hid (Ny H3.out);obtain⟨lz,hlz⟩:∃z,bZ l=z:=⟨_,rfl⟩;have WH:=hid hlz;rw[hlz]at ZX;clear hlz;have hcv:=SV y HY.out.1 HY.out.2;have hcv2:=SV z HZ.out.1 HZ.out.2;obtain⟨a,ha⟩:∃a:Nat,y.tmod (p:Int)=(a:Int):=⟨(y.tmod p).toNat,by have:=Int.tmod_nonneg (p:Int) HY.out.1;omega⟩;have qL:=hid (show a<p by have:=Int.tmod_lt_of_pos y (show(0:Int)<(p:Int)by have:=Sz.out;omega);omega);obtain⟨x,hx⟩:∃x,z.tmod lz=x:=⟨_,rfl⟩;have HXB:=hid (show 0<=x/\x<lz from⟨by rw[<-hx];exact Int.tmod_nonneg _ HZ.out.1,by rw[<-hx];exact Int.tmod_lt_of_pos _ (by have:=ZX.out;omega)⟩)
   have hp0:¬(p:Int)=0:=by have:=Sz.out;omega
   have hl0:¬lz=0:=by have:=ZX.out;omega
   have hw1:IntKind.i64.wrap (a:Int)=(a:Int):=IntWalk.i64_in _ (by have:=qL.out;have:=Sz.out;omega);have hw2:IntKind.i64.wrap ((p:Int)-1)=(p:Int)-1:=IntWalk.i64_in _ (by have:=Sz.out;omega)
   have hw3:IntKind.i64.wrap ((p:Int)-1-(a:Int))=((p-1-a:Nat):Int):=by
    rw[IntWalk.i64_in _ (by have:=qL.out;have:=Sz.out;omega)];have:=qL.out;omega
   have hw4:IntKind.i64.wrap x=x:=IntWalk.i64_in _ (by have:=HXB.out;have:=ZX.out;omega);obtain⟨b,hb⟩:∃b,p-1-a=b:=⟨_,rfl⟩;rw[hb]at hw3;have uO:=hid hb;clear hb hlt hi
   have lg:Hid (∀(X:World),Below wr.heap.size wr X->Calls Tryz.prog 26 #[.slice AS n cS] X fun e w'=>e = .returned (.int .i64 lz)/\Below wr.heap.size wr w'):=hid fun X hb=>by
    obtain⟨hx0,hx1,hx2,hx3,hx4⟩:=SA.out X (au PL.out hb);refine(Hz (D:=bC) l AS n cS X HN.out hx2).mono ?_;rintro e w' ⟨rfl,hb'⟩;exact⟨by rw[WH.out],au hb hb'⟩
   obtain⟨m1,hm1⟩:∃m,uK L=m:=⟨_,rfl⟩;obtain⟨m2,hm2⟩:∃m,uK M=m:=⟨_,rfl⟩;obtain⟨k1,hk1⟩:∃m,sZ (lT l x) L a=m:=⟨_,rfl⟩;obtain⟨k2,hk2⟩:∃m,sZ (lT l x) M b=m:=⟨_,rfl⟩;have HMS:=hid (show m1+m2=p-1 by rw[<-hm1,<-hm2,<-HL.out,<-HM.out,Wx.out.1,Ql H2.out Lu.out,HL.out,HP.out]);have HAP:=hid (show a<2 ^ (bD f).length by rw[HL.out,<-HP.out];exact qL.out);have HBP:Hid (b=2 ^ (bD f).length-1-a):=hid (by rw[HL.out,<-HP.out,<-uO.out]);have HKS:=hid (show k1+k2=p-1 by rw[<-hk1,<-hk2,<-HM.out,Wx.out.1,HBP.out,<-HL.out,Uw H2.out Lu.out HAP.out,HL.out,HP.out]);have HM1:=hid hm1;have HM2:=hid hm2;have Lr:=hid hk1;have He:=hid hk2
   have hs1:IntKind.i64.wrap ((m1:Int)+(m2:Int))=(p:Int)-1:=by rw[IntWalk.i64_in _ (by have:=HMS.out;have:=Sz.out;omega)];have:=HMS.out;have:=Sz.out;omega
   have hs2:IntKind.i64.wrap ((k1:Int)+(k2:Int))=(p:Int)-1:=by rw[IntWalk.i64_in _ (by have:=HKS.out;have:=Sz.out;omega)];have:=HKS.out;have:=Sz.out;omega
   have Lc:=hid (show kC L=true by rw[<-HL.out];exact DC (by rw[HL.out];exact OA.out));have ZQ:=hid (show kC M=true by rw[<-HM.out];exact DC (by rw[HM.out,ZO.out];exact OA.out))
   have HE2:Hid (∀(X:World),Below wr.heap.size wr X->Calls Tryz.prog 18 #[.slice AN L.length cN] X fun e w'=>e = .returned (.int .i64 (m1:Int))/\Below wr.heap.size wr w'):=hid fun X hb=>by
    obtain⟨hx0,hx1,hx2,hx3,hx4⟩:=SA.out X (au PL.out hb);refine(Cj L AN cN L.length X rfl (Eh.out X (au bQ.out hb)).1 (fun _ h=>h) Lc.out hx3 hx4).mono ?_;rintro e w' ⟨rfl,hb'⟩;exact⟨by rw[HM1.out],au hb hb'⟩
   have GX:Hid (∀(X:World),Below wr.heap.size wr X->Calls Tryz.prog 18 #[.slice AM L.length cM] X fun e w'=>e = .returned (.int .i64 (m2:Int))/\Below wr.heap.size wr w'):=hid fun X hb=>by
    obtain⟨hx0,hx1,hx2,hx3,hx4⟩:=SA.out X (au PL.out hb);refine(Cj M AM cM L.length X ZO.out.symm (Eh.out X (au bQ.out hb)).2 (fun _ h=>h) ZQ.out hx3 hx4).mono ?_;rintro e w' ⟨rfl,hb'⟩;exact⟨by rw[HM2.out],au hb hb'⟩
   have HE4:Hid (∀(X:World),Below wr.heap.size wr X->Calls Tryz.prog 22 #[.slice AS n cS,.slice AN L.length cN,.int .i64 (a:Int),.int .i64 x] X fun e w'=>e = .returned (.int .i64 (k1:Int))/\Below wr.heap.size wr w'):=hid fun X hb=>by
    obtain⟨hx0,hx1,hx2,hx3,hx4⟩:=SA.out X (au PL.out hb);refine(FV l AS cS n L AN cN L.length a x X HN.out hx2 rfl (Eh.out X (au bQ.out hb)).1 Lc.out hx3 hx4 (by rw[<-HP.out];exact qL.out) HXB.out.1 (by rw[WH.out];exact HXB.out.2)).mono ?_;rintro e w' ⟨rfl,hb'⟩;exact⟨by rw[Lr.out],au hb hb'⟩
   have qd3:=hid (show b<2 ^ L.length by rw[<-HP.out];have:=uO.out;have:=Sz.out;omega)
   have HE5:Hid (∀(X:World),Below wr.heap.size wr X->Calls Tryz.prog 22 #[.slice AS n cS,.slice AM L.length cM,.int .i64 (b:Int),.int .i64 x] X fun e w'=>e = .returned (.int .i64 (k2:Int))/\Below wr.heap.size wr w'):=hid fun X hb=>by
    obtain⟨hx0,hx1,hx2,hx3,hx4⟩:=SA.out X (au PL.out hb);refine(FV l AS cS n M AM cM L.length b x X HN.out hx2 ZO.out.symm (Eh.out X (au bQ.out hb)).2 ZQ.out hx3 hx4 qd3.out HXB.out.1 (by rw[WH.out];exact HXB.out.2)).mono ?_;rintro e w' ⟨rfl,hb'⟩;exact⟨by rw[He.out],au hb hb'⟩
   obtain⟨pf,hpf⟩:∃r,allB dO f=r:=⟨_,rfl⟩;have G5:=hid hpf
   have HE6:Hid (∀W':World,Below wr.heap.size wr W'->Calls Tryz.prog 12 #[.agg #[.int .i64 f.op,.string f.name,.int .i64 f.val,.int .i64 f.bound,.slice AF f.args.length cF]] W' fun e w'=>e = .returned (.bool pf)/\Below wr.heap.size wr w'):=hid fun W' hb=>by
    obtain⟨hx0,hx1,hx2,hx3,hx4⟩:=SA.out W' (au PL.out hb);refine(mM f _ W' hx1 hx3 (by have:=(iq H2.out).2.1;omega)).mono ?_;rintro e w' ⟨rfl,hb'⟩;exact⟨by rw[G5.out],au hb hb'⟩
   clear hpf hm1 hm2 hk1 hk2;go_upto_region 21 with(go_at_call 26;(with_reducible refine(lg.out _ (Below.refl _ _)).mono ?_);rintro e V8 ⟨rfl,hb2⟩;have HV8:=hid hb2;clear hb2)
   go_upto_region 23 with(first
    | (go_at_call 18;(with_reducible refine(HE2.out _ HV8.out).mono ?_);rintro e V9 ⟨rfl,hb2⟩;have HV9:=hid hb2;clear hb2)
    | (go_at_call 18;(with_reducible refine(GX.out _ HV9.out).mono ?_);rintro e V10 ⟨rfl,hb2⟩;have HV10:=hid hb2;clear hb2)
    | (go_at_call 22;(with_reducible refine(HE4.out _ HV10.out).mono ?_);rintro e V11 ⟨rfl,hb2⟩;have HV11:=hid hb2;clear hb2)
    | (go_at_call 22;(with_reducible refine(HE5.out _ HV11.out).mono ?_);rintro e AZ ⟨rfl,hb2⟩;have EH:=hid hb2;clear hb2))
   have aK:Hid (∀W':World,Below AZ.heap.size AZ W'->(W'.cell? ⟨w.heap.size,0,none⟩=some (.int .i64 f.op)/\W'.cell? ⟨w.heap.size,1,none⟩=some (.string f.name)/\W'.cell? ⟨w.heap.size,2,none⟩=some (.int .i64 f.val)/\W'.cell? ⟨w.heap.size,3,none⟩=some (.int .i64 f.bound)/\W'.cell? ⟨w.heap.size,4,none⟩=some (.slice AF f.args.length cF))/\(W'.cell? ⟨gb,0,none⟩=some (.int .i64 g.op)/\W'.cell? ⟨gb,1,none⟩=some (.string g.name)/\W'.cell? ⟨gb,2,none⟩=some (.int .i64 g.val)/\W'.cell? ⟨gb,3,none⟩=some (.int .i64 g.bound)/\W'.cell? ⟨gb,4,none⟩=some (.slice AG g.args.length cG))):=hid fun W' hb=>by
    obtain⟨a0,a1,a2,a3,a4,_⟩:=(qeD.out.below (au EH.out hb)).cells;obtain⟨b0,b1,b2,b3,b4,_⟩:=(qeE.out.below (au EH.out hb)).cells;exact⟨⟨a0,a1,a2,a3,a4⟩,b0,b1,b2,b3,b4⟩
   have HF6:Hid (∀W':World,Below AZ.heap.size AZ W'->Calls Tryz.prog 12 #[.agg #[.int .i64 f.op,.string f.name,.int .i64 f.val,.int .i64 f.bound,.slice AF f.args.length cF]] W' fun e w'=>e = .returned (.bool pf)/\Below AZ.heap.size AZ w'):=hid fun W' hb=>by
    obtain⟨hx0,hx1,hx2,hx3,hx4⟩:=SA.out W' (au PL.out (au EH.out hb));refine(mM f _ W' hx1 hx3 (by have:=(iq H2.out).2.1;omega)).mono ?_;rintro e w' ⟨rfl,hb'⟩;exact⟨by rw[G5.out],au hb hb'⟩
   have HI0:=hid (Below.refl AZ.heap.size AZ);have HI1:=hid (show Below AZ.heap.size AZ AZ.drew from(Below.refl AZ.heap.size AZ).drew);have HI2:=hid (show∀i,Below AZ.heap.size AZ (AZ.drewN i)from fun i=>below_drewN (Below.refl AZ.heap.size AZ) i);obtain⟨⟨p0,p1,p2,p3,p4⟩,s0,s1,s2,s3,s4⟩:=aK.out AZ (Below.refl _ _);have zb1:=(qeD.out.below EH.out).cells.2.2.2.2.2;have zb2:=(qeE.out.below EH.out).cells.2.2.2.2.2;cases pf
   ·refine wp_region_held_drew (S:=fun W':World=>(W'.cell? ⟨w.heap.size,0,none⟩=some (.int .i64 f.op)/\W'.cell? ⟨w.heap.size,1,none⟩=some (.string f.name)/\W'.cell? ⟨w.heap.size,2,none⟩=some (.int .i64 f.val)/\W'.cell? ⟨w.heap.size,3,none⟩=some (.int .i64 f.bound)/\W'.cell? ⟨w.heap.size,4,none⟩=some (.slice AF f.args.length cF))/\(W'.cell? ⟨gb,0,none⟩=some (.int .i64 g.op)/\W'.cell? ⟨gb,1,none⟩=some (.string g.name)/\W'.cell? ⟨gb,2,none⟩=some (.int .i64 g.val)/\W'.cell? ⟨gb,3,none⟩=some (.int .i64 g.bound)/\W'.cell? ⟨gb,4,none⟩=some (.slice AG g.args.length cG))) (by kernel_rfl) ⟨⟨p0,p1,p2,p3,p4⟩,s0,s1,s2,s3,s4⟩ (fun hHeld=>?_)
    refine iZ 0 ?_ rfl (by kernel_rfl) (fun _ _ _ h=>h) ?_ (by assumption) ?_
    rotate_left
    ·intro w hSw;(try dsimp only at hSw);obtain⟨⟨s0,s1,s2,s3,s4⟩,s5,s6,s7,s8,s9⟩:=hSw;go_simp;(try(with_reducible rfl))
    try simp only[Act.put,dI,dJ,dK]
    refine iZ 1 ?_ rfl (by kernel_rfl) (fun _ _ _ h=>h) ?_ (by assumption) ?_
    rotate_left
    ·intro w hSw;(try dsimp only at hSw);obtain⟨⟨s0,s1,s2,s3,s4⟩,s5,s6,s7,s8,s9⟩:=hSw;go_simp;(try(with_reducible rfl))
    try simp only[Act.put,dI,dJ,dK]
    refine iZ 2 ?_ rfl (by kernel_rfl) (fun _ _ _ h=>h) ?_ (by assumption) ?_
    rotate_left
    ·intro w hSw;(try dsimp only at hSw);obtain⟨⟨s0,s1,s2,s3,s4⟩,s5,s6,s7,s8,s9⟩:=hSw;go_simp;(try(with_reducible rfl))
    try simp only[Act.put,dI,dJ,dK]
    refine rQ 3 (by kernel_rfl) rfl fun K hK=>?_
    go_simp
    (go_at_call 12;(with_reducible refine(HF6.out _ (by first|exact HI0.out|exact HI1.out|exact HI2.out _)).mono ?_);rintro e W7 ⟨rfl,hI⟩;have HJ:=hid hI;clear hI)
    go_wp2_with fail
    refine hK.out _ _ ?_ (fun hHeld=>?_)
    ·exact aK.out _ HJ.out
    clear hK K
    try simp only[Act.put,dI,dJ,dK]
    refine iZ 4 ?_ rfl (by kernel_rfl) (fun _ _ _ h=>h) ?_ (by assumption) ?_
    rotate_left
    ·intro w hSw;(try dsimp only at hSw);obtain⟨⟨s0,s1,s2,s3,s4⟩,s5,s6,s7,s8,s9⟩:=hSw;go_simp;(try(with_reducible rfl))
    try simp only[Act.put,dI,dJ,dK]
    refine iZ 5 ?_ rfl (by kernel_rfl) (fun _ _ _ h=>h) ?_ (by assumption) ?_
    rotate_left
    ·intro w hSw;(try dsimp only at hSw);obtain⟨⟨s0,s1,s2,s3,s4⟩,s5,s6,s7,s8,s9⟩:=hSw;go_simp;(try(with_reducible rfl))
    try simp only[Act.put,dI,dJ,dK]
    refine VL 6 rfl (by kernel_rfl) (fun _ _ _ h=>h) (by assumption) ?_
    try simp only[Act.put,dI,dJ,dK]
    refine VL 7 rfl (by kernel_rfl) (fun _ _ _ h=>h) (by assumption) ?_
    try simp only[Act.put,dI,dJ,dK]
    refine VL 8 rfl (by kernel_rfl) (fun _ _ _ h=>h) (by assumption) ?_
    try simp only[Act.put,dI,dJ,dK]
    refine VL 9 rfl (by kernel_rfl) (fun _ _ _ h=>h) (by assumption) ?_
    try simp only[Act.put,dI,dJ,dK]
    refine VL 10 rfl (by kernel_rfl) (fun _ _ _ h=>h) (by assumption) ?_
    try simp only[Act.put,dI,dJ,dK]
    refine VL 11 rfl (by kernel_rfl) (fun _ _ _ h=>h) (by assumption) ?_
    try simp only[Act.put,dI,dJ,dK]
    refine VL 12 rfl (by kernel_rfl) (fun _ _ _ h=>h) (by assumption) ?_
    try simp only[Act.put,dI,dJ,dK]
    refine VL 13 rfl (by kernel_rfl) (fun _ _ _ h=>h) (by assumption) ?_
    try simp only[Act.put,dI,dJ,dK]
    refine VL 14 rfl (by kernel_rfl) (fun _ _ _ h=>h) (by assumption) ?_
    try simp only[Act.put,dI,dJ,dK]
    refine VL 15 rfl (by kernel_rfl) (fun _ _ _ h=>h) (by assumption) ?_
    try simp only[Act.put,dI,dJ,dK]
    refine VL 16 rfl (by kernel_rfl) (fun _ _ _ h=>h) (by assumption) ?_
    try simp only[Act.put,dI,dJ,dK]
    refine VL 17 rfl (by kernel_rfl) (fun _ _ _ h=>h) (by assumption) ?_
    try simp only[Act.put,dI,dJ,dK]
    refine VL 18 rfl (by kernel_rfl) (fun _ _ _ h=>h) (by assumption) ?_
    try simp only[Act.put,dI,dJ,dK]
    refine iZ 19 ?_ rfl (by kernel_rfl) (fun _ _ _ h=>h) ?_ (by assumption) ?_
    rotate_left
    ·intro w hSw;(try dsimp only at hSw);obtain⟨⟨s0,s1,s2,s3,s4⟩,s5,s6,s7,s8,s9⟩:=hSw;go_simp;(try(with_reducible rfl))
    try simp only[Act.put,dI,dJ,dK]
    refine rQ 20 (by kernel_rfl) rfl fun K hK=>?_
    go_simp
    refine hK.out _ _ ?_ (fun hHeld=>?_)
    ·exact aK.out _ HJ.out
    clear hK K
    try simp only[Act.put,dI,dJ,dK]
    refine rQ 21 (by kernel_rfl) rfl fun K hK=>?_
    go_simp
    refine hK.out _ _ ?_ (fun hHeld=>?_)
    ·exact aK.out _ HJ.out
    clear hK K
    try simp only[Act.put,dI,dJ,dK]
    refine wpAnyH_done (by kernel_rfl) ?_ _;clear p0 p1 p2 p3 p4 s0 s1 s2 s3 s4;go_wp2_with fail
    go_ret
    exact⟨rfl,au aX.out (au HU2.out (au PL.out (au EH.out HJ.out)))⟩
   ·obtain⟨r,hr⟩:∃r,fA (lT l x) (cu L a) f=r:=⟨_,rfl⟩
    have HR:=hid hr;have HR2:=hid (show fA (lT l x) (cu M b) g = !r by rw[<-HM.out,Wx.out.1,HBP.out,XD H2.out Lu.out G5.out HAP.out,HL.out,HR.out]);clear hr
    have Wv:Hid (∀W':World,Below AZ.heap.size AZ W'->Calls Tryz.prog 20 #[.slice AS n cS,.slice AN L.length cN,.int .i64 (a:Int),.int .i64 x,.agg #[.int .i64 f.op,.string f.name,.int .i64 f.val,.int .i64 f.bound,.slice AF f.args.length cF]] W' fun e w'=>e = .returned (.bool r)/\Below AZ.heap.size AZ w'):=hid fun W' hb=>by
     obtain⟨hx0,hx1,hx2,hx3,hx4⟩:=SA.out W' (au PL.out (au EH.out hb));refine(KE l AS cS n L AN cN L.length a x f _ W' HN.out hx2 rfl (Eh.out W' (au bQ.out (au EH.out hb))).1 Lc.out hx3 hx4 (by rw[<-HP.out];exact qL.out) HXB.out.1 (by rw[WH.out];exact HXB.out.2) hx1 H2.out G5.out (fun y hy=>by rw[<-HL.out];exact(nK H2.out).2 hy)).mono ?_;rintro e w' ⟨rfl,hb'⟩;exact⟨by rw[HR.out],au hb hb'⟩
    have HF8:Hid (∀W':World,Below AZ.heap.size AZ W'->Calls Tryz.prog 20 #[.slice AS n cS,.slice AM L.length cM,.int .i64 (b:Int),.int .i64 x,.agg #[.int .i64 g.op,.string g.name,.int .i64 g.val,.int .i64 g.bound,.slice AG g.args.length cG]] W' fun e w'=>e = .returned (.bool !r)/\Below AZ.heap.size AZ w'):=hid fun W' hb=>by
     obtain⟨hx0,hx1,hx2,hx3,hx4⟩:=SA.out W' (au PL.out (au EH.out hb));refine(KE l AS cS n M AM cM L.length b x g _ W' HN.out hx2 ZO.out.symm (Eh.out W' (au bQ.out (au EH.out hb))).2 ZQ.out hx3 hx4 qd3.out HXB.out.1 (by rw[WH.out];exact HXB.out.2) hx0 Wx.out.2 (by rw[Wx.out.1];exact Ux H2.out Lu.out G5.out) (fun y hy=>by rw[<-HM.out];exact(nK Wx.out.2).2 hy)).mono ?_;rintro e w' ⟨rfl,hb'⟩;exact⟨by rw[HR2.out],au hb hb'⟩
    cases r
    all_goals
     go_region_held3 (fun W':World=>(W'.cell? ⟨w.heap.size,0,none⟩=some (.int .i64 f.op)/\W'.cell? ⟨w.heap.size,1,none⟩=some (.string f.name)/\W'.cell? ⟨w.heap.size,2,none⟩=some (.int .i64 f.val)/\W'.cell? ⟨w.heap.size,3,none⟩=some (.int .i64 f.bound)/\W'.cell? ⟨w.heap.size,4,none⟩=some (.slice AF f.args.length cF))/\(W'.cell? ⟨gb,0,none⟩=some (.int .i64 g.op)/\W'.cell? ⟨gb,1,none⟩=some (.string g.name)/\W'.cell? ⟨gb,2,none⟩=some (.int .i64 g.val)/\W'.cell? ⟨gb,3,none⟩=some (.int .i64 g.bound)/\W'.cell? ⟨gb,4,none⟩=some (.slice AG g.args.length cG)))
      (first|(with_reducible exact aK.out _ hI)|(go_keep;done))
      (first
       | (go_at_call 12;(with_reducible refine(HF6.out _ (by first|exact HI0.out|exact HI1.out|exact HI2.out _)).mono ?_);rintro e W9 ⟨rfl,hI⟩)
       | (go_at_call 20;(with_reducible refine(Wv.out _ hI).mono ?_);rintro e W9 ⟨rfl,hI9⟩;clear hI;have hI:=hI9;clear hI9)
       | (go_at_call 20;(with_reducible refine(HF8.out _ hI).mono ?_);rintro e W9 ⟨rfl,hI9⟩;clear hI;have hI:=hI9;clear hI9))
     all_goals
      have HI:=hid hI;clear hI p0 p1 p2 p3 p4 s0 s1 s2 s3 s4;go_wp2_with fail
      go_ret
      exact⟨rfl,au aX.out (au HU2.out (au PL.out (au EH.out HI.out)))⟩
end Go.Proofs.YtdpbgcmfeajigaaGreatDoor
