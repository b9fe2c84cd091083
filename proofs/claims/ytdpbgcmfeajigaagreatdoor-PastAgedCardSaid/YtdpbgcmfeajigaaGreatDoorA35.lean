/-
  Parts of a proof: QN QP QS.
-/
import Derived.Test.YtdpbgcmfeajigaaGreatDoorA34
import Derived.ProofKit
import Derived.SizedLaws
import Derived.Deep.Slices
import Derived.Deep.Matrix
import Derived.Deep.Fields
import Derived.Lib.SmallJoins
import Derived.Test.YtdpbgcmfeajigaaGreatDoorA24
set_option linter.unusedSimpArgs false
set_option linter.unusedVariables false
set_option maxRecDepth 100000
namespace Go.Proofs.YtdpbgcmfeajigaaGreatDoor
def lI (l:List Sg)(L:List Fm)(W:iV):Nat->Nat
 | 0=>sS L
 | t+1=>rW (kL l (aP W t)) L (lI l L W t)
noncomputable def before (l:List Sg)(W:iV)(x:Fm):Nat->Bool
 | 0=>decide (x.val=1)
 | t+1=>cZ (iw l W) (iy x) t
theorem N9 (l:List Sg)(L:List Fm)(W:iV):∀t,lI l L W t<2 ^ L.length
 | 0=>WY L
 | t+1=>ZC _ L _
theorem Tf {L:List Fm}{x:Fm}(hx:x∈L):bG L (sS L) x=decide (x.val=1):=by
 have h1:=qw.2 hx;unfold bG sS Dc;rw[CJ,o8 _ _ _ default _ h1,oL h1]
theorem WU {sg:ByteArray->Int->Bool}{L:List Fm}{m:Nat}{x:Fm}(hx:x∈L):bG L (rW sg L m) x=fE sg (bG L m) (iy x):=by
 have h1:=qw.2 hx;unfold bG rW Jo;rw[CJ,o8 _ _ _ default _ h1,oL h1];rfl
theorem wW {l:List Sg}{f:Fm}(h:kP l f):Ya l f/\∀g,g∈f.args->kP l g:=by
 cases h with|mk h1 h2=>exact⟨h1,h2⟩
theorem qb5 {l:List Sg}{W:iV}{t:Nat}{n:ByteArray}{v:Int}(h:fK l n<l.length):kL l (aP W t) n v=iw l W t n v:=by
 unfold kL iw iO;rw[decide_eq_true h,if_pos h,Bool.true_and];rfl
theorem Uu {l:List Sg}{W:iV}{t m:Nat}{L:List Fm}(f:Fm):bf f=true->allB iC f=true->kP l f->(∀x,x∈aY f->bG L m x=before l W x t) ->
  fE (kL l (aP W t)) (bG L m) f=cZ (iw l W) f t:=by
 refine Fm.pW (P := λ f=>bf f=true->allB iC f=true->kP l f->(∀x,x∈aY f->bG L m x=before l W x t)->fE (kL l (aP W t)) (bG L m) f=cZ (iw l W) f t) ?_ f;intro f ih hl hp hk hs;have hih:∀g,g∈f.args->fE (kL l (aP W t)) (bG L m) g=cZ (iw l W) g t := λ g hg=>ih g hg (qF hg hl) (yE hp hg) ((wW hk).2 g hg) λ x hx=>hs x (mQ hg hx);have har:=lX (iG hl)
 have hge:∀i,i<f.args.length->(f.args.map (fE (kL l (aP W t)) (bG L m))).getD i false=cZ (iw l W) (f.args.getD i default) t := λ i hi=>by
  rw[o8 _ _ _ default _ hi];exact hih _ (dA hi)
 have hgs:∀i,i<f.args.length->(f.args.map (cZ (iw l W))).getD i (λ _=>false)=cZ (iw l W) (f.args.getD i default) := λ i hi=>qP _ _ _ _ hi;have hself:jV f.op=true->bG L m f=before l W f t := λ h=>hs f (qY h);rw[Ur,sF]
 rcases Ut hl hp with e|e|e|e|e|e|e|e|e
 ·rw[e];rfl
 ·rw[e];rfl
 ·rw[e]
  show kL l (aP W t) f.name f.val=iw l W t f.name f.val;exact qb5 ((wW hk).1 e).1
 ·have h1:=har.1 (.inl e)
  rw[e];show(!(f.args.map (fE (kL l (aP W t)) (bG L m))).getD 0 false)=(!(f.args.map (cZ (iw l W))).getD 0 (λ _=>false) t);rw[hge 0 (by omega),hgs 0 (by omega)]
 ·rw[e]
  show(f.args.map (fE (kL l (aP W t)) (bG L m))).all id=(f.args.map (cZ (iw l W))).all λ u=>u t;exact qM λ g hg=>hih g hg
 ·rw[e]
  show(f.args.map (fE (kL l (aP W t)) (bG L m))).any id=(f.args.map (cZ (iw l W))).any λ u=>u t;exact qN λ g hg=>hih g hg
 ·have h1:=har.1 (.inr (.inr e))
  have h2:=hself (by rw[e];rfl);rw[e];show bG L m f=((decide (t=0)&&decide (f.val=1)) || (decide (0<t)&&(f.args.map (cZ (iw l W))).getD 0 (λ _=>false) (t-1)));rw[h2,hgs 0 (by omega)]
  cases t with
  | zero=>simp[before]
  | succ t =>
   have:iy f=f.args.getD 0 default:=by unfold iy;rw[if_pos e]
   simp[before,this]
 ·have h1:=har.2 (.inr (.inr (.inl e)))
  have h2:=hself (by rw[e];rfl);have hlk:iy f=f:=by unfold iy;rw[if_neg (by omega)]
  rw[e];show((f.args.map (fE (kL l (aP W t)) (bG L m))).getD 1 false || ((f.args.map (fE (kL l (aP W t)) (bG L m))).getD 0 false&&bG L m f))=dI ((f.args.map (cZ (iw l W))).getD 0 λ _=>false) ((f.args.map (cZ (iw l W))).getD 1 λ _=>false) (decide (f.val=1)) t;rw[h2,hge 0 (by omega),hge 1 (by omega),hgs 0 (by omega),hgs 1 (by omega)]
  cases t with
  | zero=>rfl
  | succ t =>
   show _=(_ || (_&&dI _ _ _ t))
   have h3:before l W f (t+1)=dI (cZ (iw l W) (f.args.getD 0 default)) (cZ (iw l W) (f.args.getD 1 default)) (decide (f.val=1)) t:=by
    show cZ (iw l W) (iy f) t=_;rw[hlk,sF,e];show dI ((f.args.map (cZ (iw l W))).getD 0 λ _=>false) ((f.args.map (cZ (iw l W))).getD 1 λ _=>false) (decide (f.val=1)) t=_;rw[hgs 0 (by omega),hgs 1 (by omega)]
   rw[h3]
 ·have h1:=har.2 (.inr (.inr (.inr e)))
  have h2:=hself (by rw[e];rfl);have hlk:iy f=f:=by unfold iy;rw[if_neg (by omega)]
  rw[e];show((f.args.map (fE (kL l (aP W t)) (bG L m))).getD 1 false&&((f.args.map (fE (kL l (aP W t)) (bG L m))).getD 0 false || bG L m f))=bY ((f.args.map (cZ (iw l W))).getD 0 λ _=>false) ((f.args.map (cZ (iw l W))).getD 1 λ _=>false) (decide (f.val=1)) t;rw[h2,hge 0 (by omega),hge 1 (by omega),hgs 0 (by omega),hgs 1 (by omega)]
  cases t with
  | zero=>rfl
  | succ t =>
   show _=(_&&(_ || bY _ _ _ t))
   have h3:before l W f (t+1)=bY (cZ (iw l W) (f.args.getD 0 default)) (cZ (iw l W) (f.args.getD 1 default)) (decide (f.val=1)) t:=by
    show cZ (iw l W) (iy f) t=_;rw[hlk,sF,e];show bY ((f.args.map (cZ (iw l W))).getD 0 λ _=>false) ((f.args.map (cZ (iw l W))).getD 1 λ _=>false) (decide (f.val=1)) t=_;rw[hgs 0 (by omega),hgs 1 (by omega)]
   rw[h3]
theorem Zy {x:Fm}(hb:Bare x)(he:x.op=15):iy x∈x.args:=by
 unfold iy;rw[if_pos he];exact dA (by have:=(lX hb).1 (.inr (.inr he));omega)
theorem Jk {l:List Sg}{f x:Fm}(h:kP l f)(hx:x∈aY f):kP l x:=Jt (Q := λ f=>kP l f) (λ f g hf hg=>(wW hf).2 g hg) h hx
theorem Oa {l:List Sg}{W:iV}{f:Fm}(hl:bf f=true)(hk:kP l f):∀t x,x∈aZ f->bG (aZ f) (lI l (aZ f) W t) x=before l W x t
 | 0,x,hx=>Tf hx
 | t+1,x,hx=>by
  have ih:=Oa (W:=W) hl hk t;obtain⟨_,h1,h2,h3⟩:=F8 hx;have hxp:x∈aY f:=(qW hl).1 hx;have hin:∀y,y∈aY x->y∈aZ f := λ y hy=>(qW hl).2 (OC hxp hy);show bG (aZ f) (rW _ _ _) x=cZ (iw l W) (iy x) t;rw[WU hx]
  by_cases e:x.op=15
  ·have hm:=Zy (iG h1) e
   exact Uu _ (qF hm h1) (yE h3 hm) ((wW (Jk hk hxp)).2 _ hm) λ y hy=>ih y (hin y (mQ hm hy))
  ·have:iy x=x:=by unfold iy;rw[if_neg e]
   rw[this];exact Uu _ h1 h3 (Jk hk hxp) λ y hy=>ih y (hin y hy)
open Go.ChangeShapes Go.WideShapes Go.RowKit Go.Deep Go.Joins
theorem QS:Tryz.prog.cellsOf 3=1:=by kernel_rfl
theorem QK:Tryz.prog.bytesOf 3=8:=by kernel_rfl
theorem qa8:Tryz.prog.cellsOf 37=2:=by kernel_rfl
theorem Nq:Tryz.prog.cellsOf 35=1:=by kernel_rfl
section
variable {H:Type}{enc:TypeId×Value->H}{w:World}{base:Nat}{held:Bool}
theorem ZG {t e:TypeId}{n:Nat}{v:Value}{y:DataW H×List MemPlace}(ht:Tryz.prog.underlying t=some (.slice e))(hc:Tryz.prog.cellsOf e=1)(hby:1<=Tryz.prog.bytesOf e)(h:DataW.trod enc Tryz.prog w base (λ _=>true) held n t [v]=some y)(hl:Light Tryz.prog t y.1) :
  ∃(A:Option Addr) (c:Nat) (vs:List Value),v = .slice A vs.length c/\Rd w (· < w.heap.size) 1 A vs.length c vs/\∀(i:Nat) (u:Value),vs[i]?=some u->∃(k:Nat) (z:DataW H×List MemPlace),DataW.trod enc Tryz.prog w base (λ _=>true) held k e [u]=some z/\Light Tryz.prog e z.1:=by
 rcases open_slice1 ht hc h with⟨hv,rfl⟩|⟨a,len,cap,m,k,V,D,Pl,hv,hb,hlc,hcm,hmm,rfl,hx⟩
 ·obtain rfl:v = .slice none 0 0:=by simpa using hv
  exact⟨none,0,[],rfl,Rd.nil _ _ 1 _ (by omega),λ i u hu=>by simp at hu⟩
 ·obtain rfl:v = .slice (some a) len cap:=by simpa using hv
  simp only[if_true]at hmm;obtain rfl:cap=m:=hmm.symm;obtain⟨h8,hin⟩:=wX ht hl;simp only[List.length_map,List.length_range,reachBytes]at h8;have h9:len+(cap-len)<=(len+(cap-len))*Tryz.prog.bytesOf e:=Nat.le_mul_of_pos_right _ hby;have hvl:((List.range len).map V).length=len:=by simp
  refine⟨some a,cap,(List.range len).map V,by rw[hvl],⟨⟨by simp,by rw[hvl];omega,by rw[hvl];exact hlc,hcm⟩,λ hn=>?_⟩,λ i u hu=>?_⟩
  ·rw[hvl]at hn
   obtain⟨ha,hlt⟩:=zF (hx 0 (by omega)).1;refine⟨a.block,a.off,by rw[<-ha],hlt,hlt,λ j u hu=>?_⟩
   have hj:j<len:=by
    rcases Nat.lt_or_ge j len with h|h
    ·exact h
    ·rw[List.getElem?_eq_none (by rw[hvl];exact h)]at hu;cases hu
   have:=(hx j (by omega)).1;rw[ha,QD]at this;rw[this];simpa[hj]using hu
  ·have hj:i<len:=by
    rcases Nat.lt_or_ge i len with h|h
    ·exact h
    ·rw[List.getElem?_eq_none (by rw[hvl];exact h)]at hu;cases hu
   have hu2:V i=u:=by simpa[hj]using hu
   exact⟨k,_,by rw[<-hu2];exact(hx i (by omega)).2,hin _ (List.mem_map.2 ⟨i,by simp[hj],rfl⟩)⟩
theorem Ph {α : Type}(d : α)(g : α -> Value){vs:List Value}{P : α -> Prop}(h:∀(i:Nat) (u:Value),vs[i]?=some u->∃x,u=g x/\P x):∃zs:List α,vs=zs.map g/\zs.length=vs.length/\∀i,i<zs.length->P (zs.getD i d):=by
 obtain⟨zs,hl,hz⟩:=wS d (n:=vs.length) (P := λ i x=>vs[i]?=some (g x)/\P x) λ i hi=>by
  obtain⟨x,e,hp⟩:=h i vs[i] (List.getElem?_eq_getElem hi);exact⟨x,by rw[List.getElem?_eq_getElem hi,e],hp⟩
 refine⟨zs,List.ext_getElem? λ i=>?_,hl,λ i hi=>(hz i (by omega)).2⟩;rw[List.getElem?_map]
 by_cases hi:i<vs.length
 ·rw[(hz i hi).1]
  simp[List.getD,hl,hi]
 ·rw[List.getElem?_eq_none (by omega),List.getElem?_eq_none (by omega)];rfl
theorem ZF {n:Nat}{v:Value}{y:DataW H×List MemPlace}(h:DataW.trod enc Tryz.prog w base (λ _=>true) held n 35 [v]=some y)(hl:Light Tryz.prog 35 y.1) :
  ∃(A:Option Addr) (c:Nat) (zs:List Int),v = .slice A zs.length c/\jm w (· < w.heap.size) A c zs:=by
 obtain⟨A,c,vs,rfl,hr,he⟩:=ZG Tryz.underlying35 QS (by rw[QK];omega) h hl
 obtain⟨zs,rfl,hzl,hz⟩:=Ph (0:Int) (λ z=>Value.int .i64 z) (P := λ z=>(Lit.int .i64 z).wf=true) (vs:=vs) λ i u hu=>by
  obtain⟨k,z,ht,_⟩:=he i u hu;obtain⟨x,hx,_,hw⟩:=DataW.trod_int Tryz.underlying3 ht;exact⟨x,by simpa using hx,hw⟩
 rw[<-hzl]at hr⊢;exact⟨A,c,zs,rfl,hr⟩
theorem qeq {v:Value}{d:DataW H}{p:List MemPlace}{r:Reach}{b0:Nat}(hv:Value.okWide Tryz.prog w r b0 37 v)(h:DataW.Trod enc Tryz.prog w base (λ _=>true) held 37 v d p)(hl:Light Tryz.prog 37 d) :
  ∃W:iV,yT w (· < w.heap.size) v W:=by
 obtain⟨cs,rfl,hsz⟩:=okWide_struct Tryz.underlying37 hv;obtain⟨l⟩:=cs;obtain⟨fuel,hf⟩:=h;have hl2:l.length=2:=hsz.trans qa8;obtain⟨xs,k',_,hxy,_,hyl,hg⟩:=DataW.trod_struct Tryz.underlying37 hf
 match xs,hyl,l,hl2 with
 | [y0,y1],_,[v0,v1],_ =>
  have g0:DataW.trod enc Tryz.prog w base (λ _=>true) held k' 35 [v0]=some y0:=by
   have:=hg 0 _ rfl
   change DataW.trod enc Tryz.prog w base (λ _=>true) held k' 35 (([v0,v1].drop 0).take (Tryz.prog.cellsOf 35))=some y0 at this
   rw[Nq]at this;simpa using this
  have g1:DataW.trod enc Tryz.prog w base (λ _=>true) held k' 35 [v1]=some y1:=by
   have:=hg 1 _ rfl
   change DataW.trod enc Tryz.prog w base (λ _=>true) held k' 35 (([v0,v1].drop 1).take (Tryz.prog.cellsOf 35))=some y1 at this
   rw[Nq]at this;simpa using this
  have hd:d = .agg [y0.1,y1.1]:=by
   simp only[Prod.mk.injEq]at hxy;simpa using hxy.1
  subst hd;obtain⟨A,c,zs,e0,r0⟩:=ZF g0 (yw Tryz.underlying37 hl (j:=0) rfl rfl);obtain⟨B,e,us,e1,r1⟩:=ZF g1 (yw Tryz.underlying37 hl (j:=1) rfl rfl);subst e0 e1;exact⟨⟨zs,us⟩,A,c,B,e,rfl,r0,r1⟩
end
theorem SI {f:Fm}(h:bf f=true)(m:Nat):bf (qy (aZ f) m f)=true:=E5 h λ x _=>Ku ..
theorem WC (nodes:List Fm)(m:Nat)(f:Fm):(qy nodes m f).size=f.size:=BO _ f
end Go.Proofs.YtdpbgcmfeajigaaGreatDoor
