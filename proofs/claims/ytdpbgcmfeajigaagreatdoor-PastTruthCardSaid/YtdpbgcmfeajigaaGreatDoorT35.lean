/-
  Parts of a proof: QN QP.
-/
import Derived.Test.YtdpbgcmfeajigaaGreatDoorT34
import Derived.ProofKit
import Derived.SizedLaws
import Derived.Deep.Slices
import Derived.Deep.Matrix
import Derived.Deep.Fields
import Derived.Lib.SmallJoins
import Derived.Test.YtdpbgcmfeajigaaGreatDoorT24
set_option linter.unusedSimpArgs false
set_option linter.unusedVariables false
set_option maxRecDepth 100000
namespace Go.Proofs.YtdpbgcmfeajigaaGreatDoor
def yS (l:List Sg)(L:List Fm)(W:jy):Nat->Nat
 | 0=>sD L
 | t+1=>rG (jV l (aY W t)) L (yS l L W t)
noncomputable def before (l:List Sg)(W:jy)(x:Fm):Nat->Bool
 | 0=>decide (x.val=1)
 | t+1=>iF (pJ l W) (jR x) t
theorem F9 (l:List Sg)(L:List Fm)(W:jy):∀t,yS l L W t<2 ^ L.length
 | 0=>VK L
 | t+1=>YD _ L _
theorem RP {L:List Fm}{x:Fm}(hx:x∈L):bH L (sD L) x=decide (x.val=1):=by
 have h1:=qm.2 hx;unfold bH sD CY;rw[Cj,oW _ _ _ default _ h1,oI h1]
theorem VG {sg:ByteArray->Int->Bool}{L:List Fm}{m:Nat}{x:Fm}(hx:x∈L):bH L (rG sg L m) x=fD sg (bH L m) (jR x):=by
 have h1:=qm.2 hx;unfold bH rG Jj;rw[Cj,oW _ _ _ default _ h1,oI h1];rfl
theorem Aq {l:List Sg}{f:Fm}(h:nC l f):Xh l f/\∀g,g∈f.args->nC l g:=by
 cases h with|mk h1 h2=>exact⟨h1,h2⟩
theorem qa6 {l:List Sg}{W:jy}{t:Nat}{n:ByteArray}{v:Int}(h:fQ l n<l.length):jV l (aY W t) n v=pJ l W t n v:=by
 unfold jV pJ iQ;rw[decide_eq_true h,if_pos h,Bool.true_and];rfl
theorem KL {l:List Sg}{W:jy}{t m:Nat}{L:List Fm}(f:Fm):bG f=true->allB fC f=true->nC l f->(∀x,x∈aX f->bH L m x=before l W x t) ->
  fD (jV l (aY W t)) (bH L m) f=iF (pJ l W) f t:=by
 refine Fm.tV (P:=fun f=>bG f=true->allB fC f=true->nC l f->(∀x,x∈aX f->bH L m x=before l W x t)->fD (jV l (aY W t)) (bH L m) f=iF (pJ l W) f t) ?_ f;intro f ih hl hp hk hs;have hih:∀g,g∈f.args->fD (jV l (aY W t)) (bH L m) g=iF (pJ l W) g t:=fun g hg=>ih g hg (tY hg hl) (yw hp hg) ((Aq hk).2 g hg) fun x hx=>hs x (qE hg hx);have har:=nJ (jA hl)
 have hge:∀i,i<f.args.length->(f.args.map (fD (jV l (aY W t)) (bH L m))).getD i false=iF (pJ l W) (f.args.getD i default) t:=fun i hi=>by
  rw[oW _ _ _ default _ hi];exact hih _ (cO hi)
 have hgs:∀i,i<f.args.length->(f.args.map (iF (pJ l W))).getD i (fun _=>false)=iF (pJ l W) (f.args.getD i default):=fun i hi=>zi _ _ _ _ hi;have hself:kX f.op=true->bH L m f=before l W f t:=fun h=>hs f (zA h);rw[TI,EH]
 rcases TK hl hp with e|e|e|e|e|e|e|e|e
 ·rw[e];rfl
 ·rw[e];rfl
 ·rw[e]
  show jV l (aY W t) f.name f.val=pJ l W t f.name f.val;exact qa6 ((Aq hk).1 e).1
 ·have h1:=har.1 (.inl e)
  rw[e];show(!(f.args.map (fD (jV l (aY W t)) (bH L m))).getD 0 false)=(!(f.args.map (iF (pJ l W))).getD 0 (fun _=>false) t);rw[hge 0 (by omega),hgs 0 (by omega)]
 ·rw[e]
  show(f.args.map (fD (jV l (aY W t)) (bH L m))).all id=(f.args.map (iF (pJ l W))).all fun u=>u t;exact uH fun g hg=>hih g hg
 ·rw[e]
  show(f.args.map (fD (jV l (aY W t)) (bH L m))).any id=(f.args.map (iF (pJ l W))).any fun u=>u t;exact uI fun g hg=>hih g hg
 ·have h1:=har.1 (.inr (.inr e))
  have h2:=hself (by rw[e];rfl);rw[e];show bH L m f=((decide (t=0)&&decide (f.val=1)) || (decide (0<t)&&(f.args.map (iF (pJ l W))).getD 0 (fun _=>false) (t-1)));rw[h2,hgs 0 (by omega)]
  cases t with
  | zero=>simp[before]
  | succ t =>
   have:jR f=f.args.getD 0 default:=by unfold jR;rw[if_pos e]
   simp[before,this]
 ·have h1:=har.2 (.inr (.inr (.inl e)))
  have h2:=hself (by rw[e];rfl);have hlk:jR f=f:=by unfold jR;rw[if_neg (by omega)]
  rw[e];show((f.args.map (fD (jV l (aY W t)) (bH L m))).getD 1 false || ((f.args.map (fD (jV l (aY W t)) (bH L m))).getD 0 false&&bH L m f))=fA ((f.args.map (iF (pJ l W))).getD 0 fun _=>false) ((f.args.map (iF (pJ l W))).getD 1 fun _=>false) (decide (f.val=1)) t;rw[h2,hge 0 (by omega),hge 1 (by omega),hgs 0 (by omega),hgs 1 (by omega)]
  cases t with
  | zero=>rfl
  | succ t =>
   show _=(_ || (_&&fA _ _ _ t))
   have h3:before l W f (t+1)=fA (iF (pJ l W) (f.args.getD 0 default)) (iF (pJ l W) (f.args.getD 1 default)) (decide (f.val=1)) t:=by
    show iF (pJ l W) (jR f) t=_;rw[hlk,EH,e];show fA ((f.args.map (iF (pJ l W))).getD 0 fun _=>false) ((f.args.map (iF (pJ l W))).getD 1 fun _=>false) (decide (f.val=1)) t=_;rw[hgs 0 (by omega),hgs 1 (by omega)]
   rw[h3]
 ·have h1:=har.2 (.inr (.inr (.inr e)))
  have h2:=hself (by rw[e];rfl);have hlk:jR f=f:=by unfold jR;rw[if_neg (by omega)]
  rw[e];show((f.args.map (fD (jV l (aY W t)) (bH L m))).getD 1 false&&((f.args.map (fD (jV l (aY W t)) (bH L m))).getD 0 false || bH L m f))=dU ((f.args.map (iF (pJ l W))).getD 0 fun _=>false) ((f.args.map (iF (pJ l W))).getD 1 fun _=>false) (decide (f.val=1)) t;rw[h2,hge 0 (by omega),hge 1 (by omega),hgs 0 (by omega),hgs 1 (by omega)]
  cases t with
  | zero=>rfl
  | succ t =>
   show _=(_&&(_ || dU _ _ _ t))
   have h3:before l W f (t+1)=dU (iF (pJ l W) (f.args.getD 0 default)) (iF (pJ l W) (f.args.getD 1 default)) (decide (f.val=1)) t:=by
    show iF (pJ l W) (jR f) t=_;rw[hlk,EH,e];show dU ((f.args.map (iF (pJ l W))).getD 0 fun _=>false) ((f.args.map (iF (pJ l W))).getD 1 fun _=>false) (decide (f.val=1)) t=_;rw[hgs 0 (by omega),hgs 1 (by omega)]
   rw[h3]
theorem Yy {x:Fm}(hb:Bare x)(he:x.op=15):jR x∈x.args:=by
 unfold jR;rw[if_pos he];exact cO (by have:=(nJ hb).1 (.inr (.inr he));omega)
theorem xX {l:List Sg}{f x:Fm}(h:nC l f)(hx:x∈aX f):nC l x:=Jo (Q:=fun f=>nC l f) (fun f g hf hg=>(Aq hf).2 g hg) h hx
theorem Nz {l:List Sg}{W:jy}{f:Fm}(hl:bG f=true)(hk:nC l f):∀t x,x∈dH f->bH (dH f) (yS l (dH f) W t) x=before l W x t
 | 0,x,hx=>RP hx
 | t+1,x,hx=>by
  have ih:=Nz (W:=W) hl hk t;obtain⟨_,h1,h2,h3⟩:=zu hx;have hxp:x∈aX f:=(nX hl).1 hx;have hin:∀y,y∈aX x->y∈dH f:=fun y hy=>(nX hl).2 (DV hxp hy);show bH (dH f) (rG _ _ _) x=iF (pJ l W) (jR x) t;rw[VG hx]
  by_cases e:x.op=15
  ·have hm:=Yy (jA h1) e
   exact KL _ (tY hm h1) (yw h3 hm) ((Aq (xX hk hxp)).2 _ hm) fun y hy=>ih y (hin y (qE hm hy))
  ·have:jR x=x:=by unfold jR;rw[if_neg e]
   rw[this];exact KL _ h1 h3 (xX hk hxp) fun y hy=>ih y (hin y hy)
theorem Gj {l:List Sg}{W:jy}{f g:Fm}(hl:bG f=true)(hk:nC l f)(hL:0<W.loop.length)(t:Nat)(hg:bG g=true)(hp:allB fC g=true)(hkg:nC l g)(hin:∀x,x∈aX g->x∈dH f) :
  fD (jV l (aY W t)) (bH (dH f) (yS l (dH f) W t)) g=qK l g W t:=by
 rw[UR l g W t hL (jA hg)];exact KL g hg hp hkg fun x hx=>Nz hl hk t x (hin x hx)
open Go.ChangeShapes Go.WideShapes Go.RowKit Go.Deep Go.Joins
theorem Qj:Tryz.prog.cellsOf 3=1:=by kernel_rfl
theorem Qd:Tryz.prog.bytesOf 3=8:=by kernel_rfl
theorem qae:Tryz.prog.cellsOf 37=2:=by kernel_rfl
theorem MN:Tryz.prog.cellsOf 35=1:=by kernel_rfl
section
variable {H:Type}{enc:TypeId×Value->H}{w:World}{base:Nat}{held:Bool}
theorem YG {t e:TypeId}{n:Nat}{v:Value}{y:DataW H×List MemPlace}(ht:Tryz.prog.underlying t=some (.slice e))(hc:Tryz.prog.cellsOf e=1)(hby:1<=Tryz.prog.bytesOf e)(h:DataW.trod enc Tryz.prog w base (fun _=>true) held n t [v]=some y)(hl:Light Tryz.prog t y.1) :
  ∃(A:Option Addr) (c:Nat) (vs:List Value),v = .slice A vs.length c/\Rd w (· < w.heap.size) 1 A vs.length c vs/\∀(i:Nat) (u:Value),vs[i]?=some u->∃(k:Nat) (z:DataW H×List MemPlace),DataW.trod enc Tryz.prog w base (fun _=>true) held k e [u]=some z/\Light Tryz.prog e z.1:=by
 rcases open_slice1 ht hc h with⟨hv,rfl⟩|⟨a,len,cap,m,k,V,D,Pl,hv,hb,hlc,hcm,hmm,rfl,hx⟩
 ·obtain rfl:v = .slice none 0 0:=by simpa using hv
  exact⟨none,0,[],rfl,Rd.nil _ _ 1 _ (by omega),fun i u hu=>by simp at hu⟩
 ·obtain rfl:v = .slice (some a) len cap:=by simpa using hv
  simp only[if_true]at hmm;obtain rfl:cap=m:=hmm.symm;obtain⟨h8,hin⟩:=wP ht hl;simp only[List.length_map,List.length_range,reachBytes]at h8;have h9:len+(cap-len)<=(len+(cap-len))*Tryz.prog.bytesOf e:=Nat.le_mul_of_pos_right _ hby;have hvl:((List.range len).map V).length=len:=by simp
  refine⟨some a,cap,(List.range len).map V,by rw[hvl],⟨⟨by simp,by rw[hvl];omega,by rw[hvl];exact hlc,hcm⟩,fun hn=>?_⟩,fun i u hu=>?_⟩
  ·rw[hvl]at hn
   obtain⟨ha,hlt⟩:=zx (hx 0 (by omega)).1;refine⟨a.block,a.off,by rw[<-ha],hlt,hlt,fun j u hu=>?_⟩
   have hj:j<len:=by
    rcases Nat.lt_or_ge j len with h|h
    ·exact h
    ·rw[List.getElem?_eq_none (by rw[hvl];exact h)]at hu;cases hu
   have:=(hx j (by omega)).1;rw[ha,P6]at this;rw[this];simpa[hj]using hu
  ·have hj:i<len:=by
    rcases Nat.lt_or_ge i len with h|h
    ·exact h
    ·rw[List.getElem?_eq_none (by rw[hvl];exact h)]at hu;cases hu
   have hu2:V i=u:=by simpa[hj]using hu
   exact⟨k,_,by rw[<-hu2];exact(hx i (by omega)).2,hin _ (List.mem_map.2 ⟨i,by simp[hj],rfl⟩)⟩
theorem OA {α : Type}(d : α)(g : α -> Value){vs:List Value}{P : α -> Prop}(h:∀(i:Nat) (u:Value),vs[i]?=some u->∃x,u=g x/\P x):∃zs:List α,vs=zs.map g/\zs.length=vs.length/\∀i,i<zs.length->P (zs.getD i d):=by
 obtain⟨zs,hl,hz⟩:=wK d (n:=vs.length) (P:=fun i x=>vs[i]?=some (g x)/\P x) fun i hi=>by
  obtain⟨x,e,hp⟩:=h i vs[i] (List.getElem?_eq_getElem hi);exact⟨x,by rw[List.getElem?_eq_getElem hi,e],hp⟩
 refine⟨zs,List.ext_getElem? fun i=>?_,hl,fun i hi=>(hz i (by omega)).2⟩;rw[List.getElem?_map]
 by_cases hi:i<vs.length
 ·rw[(hz i hi).1]
  simp[List.getD,hl,hi]
 ·rw[List.getElem?_eq_none (by omega),List.getElem?_eq_none (by omega)];rfl
theorem YF {n:Nat}{v:Value}{y:DataW H×List MemPlace}(h:DataW.trod enc Tryz.prog w base (fun _=>true) held n 35 [v]=some y)(hl:Light Tryz.prog 35 y.1) :
  ∃(A:Option Addr) (c:Nat) (zs:List Int),v = .slice A zs.length c/\qY w (· < w.heap.size) A c zs:=by
 obtain⟨A,c,vs,rfl,hr,he⟩:=YG Tryz.underlying35 Qj (by rw[Qd];omega) h hl
 obtain⟨zs,rfl,hzl,hz⟩:=OA (0:Int) (fun z=>Value.int .i64 z) (P:=fun z=>(Lit.int .i64 z).wf=true) (vs:=vs) fun i u hu=>by
  obtain⟨k,z,ht,_⟩:=he i u hu;obtain⟨x,hx,_,hw⟩:=DataW.trod_int Tryz.underlying3 ht;exact⟨x,by simpa using hx,hw⟩
 rw[<-hzl]at hr⊢;exact⟨A,c,zs,rfl,hr⟩
theorem qds {v:Value}{d:DataW H}{p:List MemPlace}{r:Reach}{b0:Nat}(hv:Value.okWide Tryz.prog w r b0 37 v)(h:DataW.Trod enc Tryz.prog w base (fun _=>true) held 37 v d p)(hl:Light Tryz.prog 37 d) :
  ∃W:jy,EY w (· < w.heap.size) v W:=by
 obtain⟨cs,rfl,hsz⟩:=okWide_struct Tryz.underlying37 hv;obtain⟨l⟩:=cs;obtain⟨fuel,hf⟩:=h;have hl2:l.length=2:=hsz.trans qae;obtain⟨xs,k',_,hxy,_,hyl,hg⟩:=DataW.trod_struct Tryz.underlying37 hf
 match xs,hyl,l,hl2 with
 | [y0,y1],_,[v0,v1],_ =>
  have g0:DataW.trod enc Tryz.prog w base (fun _=>true) held k' 35 [v0]=some y0:=by
   have:=hg 0 _ rfl
   change DataW.trod enc Tryz.prog w base (fun _=>true) held k' 35 (([v0,v1].drop 0).take (Tryz.prog.cellsOf 35))=some y0 at this
   rw[MN]at this;simpa using this
  have g1:DataW.trod enc Tryz.prog w base (fun _=>true) held k' 35 [v1]=some y1:=by
   have:=hg 1 _ rfl
   change DataW.trod enc Tryz.prog w base (fun _=>true) held k' 35 (([v0,v1].drop 1).take (Tryz.prog.cellsOf 35))=some y1 at this
   rw[MN]at this;simpa using this
  have hd:d = .agg [y0.1,y1.1]:=by
   simp only[Prod.mk.injEq]at hxy;simpa using hxy.1
  subst hd;obtain⟨A,c,zs,e0,r0⟩:=YF g0 (xY Tryz.underlying37 hl (j:=0) rfl rfl);obtain⟨B,e,us,e1,r1⟩:=YF g1 (xY Tryz.underlying37 hl (j:=1) rfl rfl);subst e0 e1;exact⟨⟨zs,us⟩,A,c,B,e,rfl,r0,r1⟩
end
end Go.Proofs.YtdpbgcmfeajigaaGreatDoor
