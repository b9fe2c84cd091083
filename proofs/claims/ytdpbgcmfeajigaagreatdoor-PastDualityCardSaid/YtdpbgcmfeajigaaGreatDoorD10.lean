/-
  Parts of a proof: GA GB GC HA.
-/
import Derived.Test.YtdpbgcmfeajigaaGreatDoorD09
import Derived.Test.YtdpbgcmfeajigaaGreatDoorD07
set_option linter.unusedSimpArgs false
set_option linter.unusedVariables false
set_option maxHeartbeats 8000000
namespace Go.Proofs.YtdpbgcmfeajigaaGreatDoor
structure Zt (x y z:Int):Prop where
 le:x<=0->y<=0->z<=0
 lt:x<=0->y<=0->x<0\/y<0->z<0
 left:x=0->z=y
 right:y=0->z=x
theorem Zt.nz {x y z x' y' z':Int}(h:Zt x y z)(k:x=0->y=0->Zt x' y' z'):Zt (nz x x') (nz y y') (nz z z'):=by
 obtain⟨h1,h2,h3,h4⟩:=h;unfold Proofs.YtdpbgcmfeajigaaGreatDoor.nz
 by_cases hx:x=0
 ·have hz:=h3 hx
  by_cases hy:y=0
  ·obtain⟨k1,k2,k3,k4⟩:=k hx hy
   have hz0:z=0:=by omega
   rw[if_pos hx,if_pos hy,if_pos hz0];exact⟨k1,k2,k3,k4⟩
  ·have hz0:¬z=0:=by omega
   rw[if_pos hx,if_neg hy,if_neg hz0];exact⟨by omega,by omega,by omega,by omega⟩
 ·by_cases hy:y=0
  ·have hz:=h4 hy
   have hz0:¬z=0:=by omega
   rw[if_neg hx,if_pos hy,if_neg hz0];exact⟨by omega,by omega,by omega,by omega⟩
  ·rw[if_neg hx,if_neg hy]
   by_cases hz0:z=0
   ·rw[if_pos hz0]
    exact⟨by omega,by omega,by omega,by omega⟩
   ·rw[if_neg hz0]
    exact⟨by omega,by omega,by omega,by omega⟩
theorem sH (a b c:Int):Zt (jU a b) (jU b c) (jU a c):=by
 unfold jU
 constructor <;> (split <;> split <;> split) <;> omega
theorem sG (a b:Int):jU b a = -jU a b:=by
 unfold jU
 split <;> split <;> omega
theorem uF {a b a' b':Int}(h:b = -a)(h':a=0->b' = -a'):nz b b' = -nz a a':=by
 unfold nz
 by_cases e:a=0
 ·rw[if_pos e,if_pos (by omega),h' e]
 ·rw[if_neg e,if_neg (by omega),h]
theorem wH {a b:Int}(h:nz a b=0):b=0:=by
 have:=iV h;rw[this,dD]at h;exact h
def qe3 (a b:UInt8):Int:=jU a.toNat b.toNat
theorem iT (a b:UInt8)(x y:List UInt8):Go.Lib.compareBytes (a :: x) (b :: y)=nz (qe3 a b) (Go.Lib.compareBytes x y):=by
 rw[Go.Lib.compareBytes];unfold qe3 jU nz
 by_cases h1:a<b
 ·have h2:(a.toNat:Int)<b.toNat:=by have:=UInt8.lt_iff_toNat_lt.1 h1;omega
  simp[h1,h2]
 ·have h2:¬(a.toNat:Int)<b.toNat:=fun h=>h1 (UInt8.lt_iff_toNat_lt.2 (by omega))
  by_cases h3:b<a
  ·have h4:(b.toNat:Int)<a.toNat:=by have:=UInt8.lt_iff_toNat_lt.1 h3;omega
   simp[h1,h2,h3,h4]
  ·have h4:¬(b.toNat:Int)<a.toNat:=fun h=>h3 (UInt8.lt_iff_toNat_lt.2 (by omega))
   simp[h1,h2,h3,h4]
theorem Iu:∀a b c:List UInt8,Zt (Go.Lib.compareBytes a b) (Go.Lib.compareBytes b c) (Go.Lib.compareBytes a c)
 | [],[],[]=>⟨by simp[Go.Lib.compareBytes],by simp[Go.Lib.compareBytes],by simp[Go.Lib.compareBytes],by simp[Go.Lib.compareBytes]⟩
 | [],[],_ :: _=>⟨by simp[Go.Lib.compareBytes],by simp[Go.Lib.compareBytes],by simp[Go.Lib.compareBytes],by simp[Go.Lib.compareBytes]⟩
 | [],_ :: _,[]=>⟨by simp[Go.Lib.compareBytes],by simp[Go.Lib.compareBytes],by simp[Go.Lib.compareBytes],by simp[Go.Lib.compareBytes]⟩
 | _ :: _,[],[]=>⟨by simp[Go.Lib.compareBytes],by simp[Go.Lib.compareBytes],by simp[Go.Lib.compareBytes],by simp[Go.Lib.compareBytes]⟩
 | [],b :: y,c :: z=>by
  have h1:Go.Lib.compareBytes [] (b :: y) = -1:=by simp[Go.Lib.compareBytes]
  have h2:Go.Lib.compareBytes [] (c :: z) = -1:=by simp[Go.Lib.compareBytes]
  rw[h1,h2];exact⟨by omega,by omega,by omega,fun _=>rfl⟩
 | a :: x,[],c :: z=>by
  have h1:Go.Lib.compareBytes (a :: x) []=1:=by simp[Go.Lib.compareBytes]
  have h2:Go.Lib.compareBytes [] (c :: z) = -1:=by simp[Go.Lib.compareBytes]
  rw[h1,h2];exact⟨by omega,by omega,by omega,by omega⟩
 | a :: x,b :: y,[]=>by
  have h1:Go.Lib.compareBytes (a :: x) []=1:=by simp[Go.Lib.compareBytes]
  have h2:Go.Lib.compareBytes (b :: y) []=1:=by simp[Go.Lib.compareBytes]
  rw[h1,h2];exact⟨by omega,by omega,fun _=>rfl,by omega⟩
 | a :: x,b :: y,c :: z=>by
  rw[iT,iT,iT];exact(sH _ _ _).nz fun _ _=>Iu x y z
theorem EX:∀a b:List UInt8,Go.Lib.compareBytes b a = -Go.Lib.compareBytes a b
 | [],[]=>by simp[Go.Lib.compareBytes]
 | [],_ :: _=>by simp[Go.Lib.compareBytes]
 | _ :: _,[]=>by simp[Go.Lib.compareBytes]
 | a :: x,b :: y=>by
  rw[iT,iT];exact uF (sG _ _) fun _=>EX x y
theorem MI (a b c:ByteArray):Zt (pz a b) (pz b c) (pz a c):=by
 rw[<-gY,<-gY,<-gY];exact Iu _ _ _
theorem Us (a b:ByteArray):pz b a = -pz a b:=by
 rw[<-gY,<-gY];exact EX _ _
theorem SS {a b:ByteArray}(h:pz a b=0):a=b:=by
 have h1:=pW.1 h;rw[ByteArray.toList_eq,ByteArray.toList_eq]at h1;have h2:a.data.toList=b.data.toList:=by simpa using h1
 cases a;cases b;simp only at h2;rw[Array.toList_inj.1 h2]
theorem Iw (a:ByteArray):pz a a=0:=pW.2 (by simp)
theorem X4 (f g h:Fm):Zt (bY f g) (bY g h) (bY f h) :=
 (sH _ _ _).nz fun _ _=>(MI _ _ _).nz fun _ _=>(sH _ _ _).nz fun _ _=>(sH _ _ _).nz fun _ _=>sH _ _ _
theorem UL (f g:Fm):bY g f = -bY f g :=
 uF (sG _ _) fun _=>uF (Us _ _) fun _=>uF (sG _ _) fun _=>uF (sG _ _) fun _=>sG _ _
theorem UM {f g:Fm}(h:bY f g=0):f.op=g.op/\f.name=g.name/\f.val=g.val/\f.bound=g.bound/\f.args.length=g.args.length:=by
 have hl:=gB h;unfold bY at h;have r1:=wH h;have r2:=wH r1;have r3:=wH r2;exact⟨jg.1 (iV h),SS (iV r1),jg.1 (iV r2),jg.1 (iV r3),hl⟩
mutual
theorem pF:∀f g h:Fm,Zt (f.cmp g) (g.cmp h) (f.cmp h)
 | .mk o n v b l,.mk o' n' v' b' l',.mk o'' n'' v'' b'' l''=>by
  rw[cmp_eq,cmp_eq,cmp_eq];exact(X4 _ _ _).nz fun h1 h2=>MJ l l' l'' (gB h1) (gB h2)
theorem MJ:∀l m n:List Fm,l.length=m.length->m.length=n.length->Zt (fU l m) (fU m n) (fU l n)
 | [],[],[],_,_=>by simp only[fU];exact sH 0 0 0
 | f :: l,g :: m,h :: n,h1,h2=>by
  simp only[fU];exact(pF f g h).nz fun _ _=>MJ l m n (by simpa using h1) (by simpa using h2)
end
mutual
theorem jY:∀f g:Fm,g.cmp f = -f.cmp g
 | .mk o n v b l,.mk o' n' v' b' l'=>by
  rw[cmp_eq,cmp_eq];exact uF (UL _ _) fun h=>Iz l l' (gB h)
theorem Iz:∀l m:List Fm,l.length=m.length->fU m l = -fU l m
 | [],[],_=>by simp[fU]
 | f :: l,g :: m,h=>by
  simp only[fU];exact uF (jY f g) fun _=>Iz l m (by simpa using h)
end
mutual
theorem Iy:∀f g:Fm,f.cmp g=0->f=g
 | .mk o n v b l,.mk o' n' v' b' l',h=>by
  rw[cmp_eq]at h;obtain⟨h1,h2,h3,h4,h5⟩:=UM (iV h);exact Fm.ext h1 h2 h3 h4 (E5 l l' h5 (wH h))
theorem E5:∀l m:List Fm,l.length=m.length->fU l m=0->l=m
 | [],[],_,_=>rfl
 | f :: l,g :: m,h1,h2=>by
  simp only[fU]at h2;rw[Iy f g (iV h2),E5 l m (by simpa using h1) (wH h2)]
end
theorem kV {f g:Fm}:f.cmp g=0 ↔ f=g:=⟨Iy f g,fun h=>by rw[h];exact sJ g⟩
mutual
theorem ES {q:Fm×Bool->Bool}(hq:∀x,q (x,true)=true->q (x,false)=true):∀(f:Fm),(eP true f).all q=true->(eP false f).all q=true
 | .mk o n v b l,h=>by
  rw[pK,List.all_cons,Bool.and_eq_true]at h;rw[pK,List.all_cons,Bool.and_eq_true];refine⟨hq _ h.1,?_⟩;have h2:=h.2;simp only[Bool.true_or,Bool.false_or,Fm.op,Fm.args]at h2⊢;cases(aA o).past
  ·exact Io hq l h2
  ·exact h2
theorem Io {q:Fm×Bool->Bool}(hq:∀x,q (x,true)=true->q (x,false)=true):∀(l:List Fm),(jR true l).all q=true->(jR false l).all q=true
 | [],_=>rfl
 | f :: l,h=>by
  simp only[jR,List.all_append,Bool.and_eq_true]at h⊢;exact⟨ES hq f h.1,Io hq l h.2⟩
end
theorem zJ {q:Fm×Bool->Bool}{ins:Bool}:∀{l:List Fm} {g:Fm},g∈l->(jR ins l).all q=true->(eP ins g).all q=true
 | [],g,h,_=>by cases h
 | f :: l,g,h,ha=>by
  simp only[jR,List.all_append,Bool.and_eq_true]at ha
  rcases List.mem_cons.1 h with e|e
  ·rw[e];exact ha.1
  ·exact zJ e ha.2
theorem JV {q:Fm×Bool->Bool}{ins:Bool}:∀{l:List Fm},(∀g,g∈l->(eP ins g).all q=true)->(jR ins l).all q=true
 | [],_=>rfl
 | f :: l,h=>by
  simp only[jR,List.all_append,Bool.and_eq_true];exact⟨h f (by simp),JV fun g hg=>h g (by simp[hg])⟩
theorem zH {q:Fm×Bool->Bool}(hq:∀x,q (x,true)=true->q (x,false)=true){f g:Fm}(hg:g∈f.args)(h:allB q f=true):allB q g=true:=by
 unfold allB at h⊢;rw[pK,List.all_cons,Bool.and_eq_true]at h;have:=zJ hg h.2;cases hp:(false || (aA f.op).past)
 ·rw[hp]at this;exact this
 ·rw[hp]at this;exact ES hq g this
theorem Il {q:Fm×Bool->Bool}{f:Fm}(h:allB q f=true):q (f,false)=true:=by
 unfold allB at h;rw[pK,List.all_cons,Bool.and_eq_true]at h;exact h.1
theorem LU {q r:Fm×Bool->Bool}(hq:∀x,q x=true->r x=true){f:Fm}(h:allB q f=true):allB r f=true:=by
 unfold allB at h⊢;rw[List.all_eq_true]at h⊢;exact fun x hx=>hq x (h x hx)
theorem PZ (x:Fm):bH (x,true)=true->bH (x,false)=true:=by
 unfold bH;simp only[Bool.and_eq_true];rintro⟨⟨⟨h1,h2⟩,h3⟩,h4⟩;exact⟨⟨⟨h1,h2⟩,by simp⟩,h4⟩
theorem KH {f:Fm}(h:allB dO f=true):allB mV f=true:=LU (fun x hx=>by
 unfold dO at hx;unfold mV;simp only[Bool.not_eq_true']at hx
 rw[hx];rfl) h
theorem Md {f:Fm}(h:allB bH f=true):allB qI f=true:=LU (fun x hx=>by
 unfold bH at hx;unfold qI;simp only[Bool.and_eq_true]at hx
 exact hx.1.1.2) h
theorem MS {f g:Fm}(hg:g∈f.args){s d:Int}(h:bG f s d=true):bG g s d=true:=by
 rw[gZ]at h⊢;have h1:=gJ hg;have h2:=yN hg;rw[Fm.size_eq,Fm.jZ]at h;omega
theorem VJ {f g:Fm}(hg:g∈f.args)(h:kT f=true):kT g=true:=by
 unfold kT at h⊢;rw[Bool.and_eq_true]at h⊢;exact⟨MS hg h.1,zH (q:=qI) (fun _ h=>h) hg h.2⟩
def ltS (a b:ByteArray):Bool:=Go.Op.bytesLess a.toList b.toList
theorem vU:∀l:List UInt8,Go.Op.bytesLess l l=false
 | []=>rfl
 | a :: l=>by rw[Go.Op.bytesLess];simp[vU l,UInt8.lt_irrefl]
theorem TB (a b:ByteArray):ltS a b=true ↔ pz a b<0:=by
 unfold ltS pz;cases h:a.toList==b.toList
 ·cases Go.Op.bytesLess a.toList b.toList <;> simp
 ·have e:a.toList=b.toList:=by simpa using h
  rw[e,vU];simp
theorem yU (a:ByteArray):ltS a a=false:=by
 cases h:ltS a a
 ·rfl
 ·rw[TB,Iw]at h;omega
theorem Ve {a b c:ByteArray}(h:ltS a b=true)(k:ltS b c=true):ltS a c=true:=by
 rw[TB]at *
 exact(MI a b c).lt (by omega) (by omega) (.inl h)
def Asc (l:List ByteArray):Prop:=l.Pairwise fun a b=>ltS a b=true
theorem Asc.ext:∀{l m:List ByteArray},Asc l->Asc m->(∀x,x∈l ↔ x∈m)->l=m
 | [],[],_,_,_=>rfl
 | [],b :: m,_,_,h=>absurd ((h b).2 (by simp)) (by simp)
 | a :: l,[],_,_,h=>absurd ((h a).1 (by simp)) (by simp)
 | a :: l,b :: m,h1,h2,h=>by
  rw[Asc,List.pairwise_cons]at h1 h2
  have hab:a=b:=by
   rcases List.mem_cons.1 ((h a).1 (by simp))with e|e
   ·exact e
   ·rcases List.mem_cons.1 ((h b).2 (by simp))with e'|e'
    ·exact e'.symm
    ·have h3:=Ve (h2.1 a e) (h1.1 b e')
     rw[yU]at h3;cases h3
  subst hab
  congr 1
  refine Asc.ext h1.2 h2.2 fun x=>⟨fun hx=>?_,fun hx=>?_⟩
  ·rcases List.mem_cons.1 ((h x).1 (by simp[hx]))with e|e
   ·have:=h1.1 x hx
    rw[e,yU]at this;cases this
   ·exact e
  ·rcases List.mem_cons.1 ((h x).2 (by simp[hx]))with e|e
   ·have:=h2.1 x hx
    rw[e,yU]at this;cases this
   ·exact e
theorem xk {a b:ByteArray}:(a.toList==b.toList)=true ↔ a=b:=by
 rw[<-pW];exact⟨SS,fun h=>by rw[h];exact Iw _⟩
theorem Fm.ind {P:Fm->Prop}(h:∀f,(∀g,g∈f.args->P g)->P f)(f:Fm):P f :=
 Fm.induct (fun f ih=>h f fun g hg=>by
  obtain⟨i,hi,rfl⟩:=List.getElem_of_mem hg;have:=ih i hi
  rwa [List.getD_eq_getElem?_getD,List.getElem?_eq_getElem hi]at this) f
theorem gq {f:Fm}(h:bV f=true):isOp f.op=true/\(aA f.op).least<=f.args.length/\f.args.length<=(aA f.op).most/\0<=f.val/\f.val<=(aA f.op).val/\0<=f.bound/\f.bound<=(aA f.op).bound/\nJ (aA f.op) f.name=true:=by
 unfold bV at h;simp only[Bool.and_eq_true,decide_eq_true_eq]at h;obtain⟨⟨⟨⟨⟨⟨⟨h1,h2⟩,h3⟩,h4⟩,h5⟩,h6⟩,h7⟩,h8⟩:=h;exact⟨h1,h2,h3,h4,h5,h6,h7,h8⟩
theorem Gv {f:Fm}(h1:isOp f.op=true)(h2:(aA f.op).least<=f.args.length)(h3:f.args.length<=(aA f.op).most)(h4:0<=f.val)(h5:f.val<=(aA f.op).val)(h6:0<=f.bound)(h7:f.bound<=(aA f.op).bound)(h8:nJ (aA f.op) f.name=true):bV f=true:=by
 unfold bV;simp only[Bool.and_eq_true,decide_eq_true_eq];exact⟨⟨⟨⟨⟨⟨⟨h1,h2⟩,h3⟩,h4⟩,h5⟩,h6⟩,h7⟩,h8⟩
theorem qy {o:Int}(h:isOp o=true):o=1\/o=2\/o=3\/o=4\/o=5\/o=6\/o=7\/o=8\/o=9\/o=10\/o=11\/o=12\/o=13\/o=14\/o=15\/o=16\/o=17\/o=18\/o=19:=by
 unfold isOp at h;simp at h;omega
theorem Qn {s:ByteArray}(h:s.toList.isEmpty=true):s=⟨#[]⟩:=by
 rw[ByteArray.toList_eq]at h;have h1:s.data.toList = []:=by simpa using h
 cases s;simp only at h1;rw[Array.toList_eq_nil_iff.1 h1]
def yC (o:Int):Bool:=isOp o && !(decide (o=3) || decide (o=4) || decide (o=13) || decide (o=14))
theorem xC {o:Int}(h:yC o=true):o=1\/o=2\/o=5\/o=6\/o=7\/o=8\/o=9\/o=10\/o=11\/o=12\/o=15\/o=16\/o=17\/o=18\/o=19:=by
 unfold yC isOp at h;simp at h;omega
theorem qc9 {o:Int}(h:isOp o=true)(h3:o≠3)(h4:o≠4)(h5:o≠13)(h6:o≠14):yC o=true:=by
 unfold yC;rw[h,decide_eq_false h3,decide_eq_false h4,decide_eq_false h5,decide_eq_false h6];rfl
theorem yT {o:Int}(h:yC o=true)(neg:Bool)(n:ByteArray)(v b:Int)(l:List Fm):kf neg (.mk o n v b l) = .mk (aY neg o) n (fK neg o v) 0 (jd neg o++zu (lM neg o) (kX neg o) l):=by
 rw[Nq];simp only[Fm.op,Fm.name,Fm.val,Fm.bound,Fm.args];unfold Yf
 rcases xC h with rfl|rfl|rfl|rfl|rfl|rfl|rfl|rfl|rfl|rfl|rfl|rfl|rfl|rfl|rfl <;> rfl
theorem uy (neg:Bool)(n:ByteArray)(v b:Int)(g:Fm):kf neg (.mk 4 n v b [g])=kf (!neg) g:=by
 rw[Nq];rfl
theorem Dt (n:ByteArray)(v b:Int):kf false (.mk 3 n v b []) = .mk 3 n v 0 []:=by
 rw[Nq];rfl
theorem lY (n:ByteArray)(v b:Int):kf true (.mk 3 n v b [])=iQ 4 [QN n v]:=by
 rw[Nq];rfl
theorem Kr {o:Int}(h:o=13\/o=14)(neg:Bool)(n:ByteArray)(v b:Int)(g:Fm):kf neg (.mk o n v b [g])=jO (aY neg o) b.toNat (kf neg g):=by
 rw[Nq]
 rcases h with rfl|rfl <;> rfl
structure qaj (b:Bool) (o:Int):Prop where
 gen:yC (aY b o)=true
 dual:aY true (aY b o)=aY (!b) o
 lone:jd true (aY b o) = []
 t0:lM true (aY b o)=true
 t1:kX true (aY b o)=true
 f0:lM (!b) o = !(lM b o)
 f1:kX (!b) o = !(kX b o)
 lmap:(jd b o).map (kf true)=jd (!b) o
 val:∀v,v<=(aA o).val->0<=v->fK true (aY b o) (fK b o v)=fK (!b) o v
 loose:(aA (aY b o)).loose=true
 fut:(aA (aY b o)).future=true->(aA o).future=true
 past:(aA (aY b o)).past=(aA o).past
 ne3:aY b o≠3
 ne4:aY b o≠4
 vmin:∀v,v<=(aA o).val->0<=v->0<=fK b o v
 vmax:∀v,v<=(aA o).val->0<=v->fK b o v<=(aA (aY b o)).val
 bmax:(0:Int)<=(aA (aY b o)).bound
 least:∀n,(aA o).least<=n->n<=(aA o).most->(aA (aY b o)).least<=(jd b o).length+n
 most:∀n,(aA o).least<=n->n<=(aA o).most->(jd b o).length+n<=(aA (aY b o)).most
 named:(aA (aY b o)).named=false
 qdu:(aA o).named=false
 qfS:∀g,g∈jd b o->g=iQ 1 []\/g=iQ 2 []
theorem NS {o:Int}(h:yC o=true)(b:Bool):qaj b o:=by
 rcases xC h with rfl|rfl|rfl|rfl|rfl|rfl|rfl|rfl|rfl|rfl|rfl|rfl|rfl|rfl|rfl <;> cases b
 all_goals
  refine⟨by rfl,by rfl,by rfl,by rfl,by rfl,by rfl,by rfl,by rfl,fun v h1 h2=>?_,by rfl,by decide,by rfl,by decide,by decide,fun v h1 h2=>?_,fun v h1 h2=>?_,by decide,fun n h1 h2=>?_,fun n h1 h2=>?_,by rfl,by rfl,fun g hg=>?_⟩
  ·simp[aA,isOp,fV,dU]at h1
   simp[fK,wC,kQ,aY,sK,oU] <;> omega
  ·simp[aA,isOp,fV,dU]at h1
   simp[fK,wC,kQ,aY,sK,oU] <;> omega
  ·simp[aA,isOp,fV,dU]at h1
   simp[fK,wC,kQ,aY,sK,oU,aA,isOp,fV,dU] <;> omega
  ·simp[aA,isOp,fV,dU,manyN]at h1 h2
   simp[jd,kQ,aY,sK,oU,aA,isOp,fV,dU,manyN] <;> omega
  ·simp[aA,isOp,fV,dU,manyN]at h1 h2
   simp[jd,kQ,aY,sK,oU,aA,isOp,fV,dU,manyN] <;> omega
  ·simp[jd,kQ,aY,sK,oU]at hg
   try simp[hg]
theorem Tz:∀(l:List Fm) (a r:Bool),(∀g,g∈l->∀b,kf true (kf b g)=kf (!b) g)->(zu a r l).map (kf true)=zu (!a) (!r) l
 | [],_,_,_=>rfl
 | f :: l,a,r,h=>by
  simp only[zu,List.map_cons];rw[h f (by simp),Tz l r r fun g hg=>h g (by simp[hg])]
theorem Tv (r:Bool)(l:List Fm):zu r r l=l.map (kf r):=Kt r l
theorem N8 {p:Int}(h:p=5\/p=6)(f:Fm):∀n,kf true (jO p n f)=jO (aY true p) n (kf true f)
 | 0=>rfl
 | n+1=>by
  have e8:kf true (iQ 8 [jO p n f])=iQ 8 [kf true (jO p n f)]:=rfl
  have e:kf true (iQ p [f,iQ 8 [jO p n f]])=iQ (aY true p) [kf true f,kf true (iQ 8 [jO p n f])]:=by
   rcases h with rfl|rfl <;> rfl
  rw[jO,e,e8,N8 h f n];rfl
theorem Ep {f:Fm}(h0:(aA f.op).least=1)(h1:(aA f.op).most=1)(hs:bV f=true):∃g,f.args = [g]:=by
 obtain⟨_,h2,h3,_⟩:=gq hs;rw[h0]at h2;rw[h1]at h3
 cases hf:f.args with
 | nil=>rw[hf]at h2;simp at h2
 | cons g l =>
  cases l with
  | nil=>exact⟨g,rfl⟩
  | cons g' l=>rw[hf]at h3;simp at h3
theorem Q7 {f:Fm}(h1:(aA f.op).most=0)(hs:bV f=true):f.args = []:=by
 obtain⟨_,h2,h3,_⟩:=gq hs;rw[h1]at h3;exact List.eq_nil_of_length_eq_zero (by omega)
theorem wI {f:Fm}(hs:bV f=true):(f.op=3/\f.args = [])\/(f.op=4/\∃g,f.args = [g])\/((f.op=13\/f.op=14)/\∃g,f.args = [g])\/yC f.op=true:=by
 have h0:=(gq hs).1
 by_cases h3:f.op=3
 ·exact .inl ⟨h3,Q7 (by rw[h3];rfl) hs⟩
 ·by_cases h4:f.op=4
  ·exact .inr (.inl ⟨h4,Ep (by rw[h4];rfl) (by rw[h4];rfl) hs⟩)
  ·by_cases h5:f.op=13
   ·exact .inr (.inr (.inl ⟨.inl h5,Ep (by rw[h5];rfl) (by rw[h5];rfl) hs⟩))
   ·by_cases h6:f.op=14
    ·exact .inr (.inr (.inl ⟨.inr h6,Ep (by rw[h6];rfl) (by rw[h6];rfl) hs⟩))
    ·exact .inr (.inr (.inr (qc9 h0 h3 h4 h5 h6)))
def allI (q:Fm×Bool->Bool)(ins:Bool)(f:Fm):Prop:=(eP ins f).all q=true
theorem bT {q:Fm×Bool->Bool}{ins:Bool}{f:Fm}:allI q ins f ↔ q (f,ins)=true/\∀g,g∈f.args->allI q (ins || (aA f.op).past) g:=by
 unfold allI;rw[pK,List.all_cons,Bool.and_eq_true];exact and_congr_right fun _=>⟨fun h g hg=>zJ hg h,fun h=>JV h⟩
theorem qj {q:Fm×Bool->Bool}{f:Fm}:allB q f=true ↔ allI q false f:=Iff.rfl
theorem qfR (f:Fm):∀(ins:Bool),allI qI ins f->∀b,kf true (kf b f)=kf (!b) f:=by
 refine Fm.ind (P:=fun f=>∀(ins:Bool),allI qI ins f->∀b,kf true (kf b f)=kf (!b) f) ?_ f;intro f ih ins hf b;obtain⟨hs,ha⟩:=bT.1 hf;have hs:bV f=true:=hs;have hout:=gq hs;have hp:=wI hs;obtain⟨o,n,v,bd,l⟩:=f
 simp only[Fm.op,Fm.name,Fm.val,Fm.bound,Fm.args]at *
 rcases hp with⟨rfl,rfl⟩|⟨rfl,g,rfl⟩|⟨ho,g,rfl⟩|hg
 ·cases b
  ·rw[Dt,lY];exact(lY n v bd).symm
  ·rw[lY]
   show kf true (.mk 4 ⟨#[]⟩ 0 0 [QN n v])=_;rw[uy];exact Dt n v 0
 ·rw[uy,uy]
  have:=ih g (by simp) _ (ha g (by simp)) (!b);rw[this]
 ·rw[Kr ho,Kr ho]
  rw[N8 (by rcases ho with rfl|rfl <;> cases b <;> simp[aY,sK,oU]),ih g (by simp) _ (ha g (by simp)) b]
  congr 1
  rcases ho with rfl|rfl <;> cases b <;> rfl
 ·have F:=NS hg b
  rw[yT hg,yT F.gen,yT hg,F.dual,F.lone,F.t0,F.t1,Tv,List.map_append,F.lmap,Tz l _ _ fun g hg b=>ih g hg _ (ha g hg) b,F.f0,F.f1,F.val v hout.2.2.2.2.1 hout.2.2.2.1];rfl
theorem TF:∀{l:List Fm} {a r:Bool} {x:Fm},x∈zu a r l->∃g b,g∈l/\x=kf b g
 | [],_,_,x,h=>by cases h
 | f :: l,a,r,x,h=>by
  simp only[zu]at h
  rcases List.mem_cons.1 h with rfl|h
  ·exact⟨f,a,by simp,rfl⟩
  ·obtain⟨g,b,hg,e⟩:=TF h
   exact⟨g,b,by simp[hg],e⟩
theorem lW {ins:Bool}{f:Fm}(h1:(aA f.op).loose=true)(h2:bV f=true)(h3:(aA f.op).future=true->ins=false)(h4:f.op=4->(f.args.getD 0 default).op=3):bH (f,ins)=true:=by
 unfold bH yZ;simp only[h1,h2,Bool.true_and];rw[Bool.and_eq_true]
 constructor
 ·cases hf:(aA f.op).future
  ·rfl
  ·rw[h3 hf];rfl
 ·by_cases e:f.op=4
  ·rw[decide_eq_true e,decide_eq_true (h4 e)];rfl
  ·rw[decide_eq_false e];rfl
theorem Kv {s:Form}(h:s.named=false):nJ s ⟨#[]⟩=true:=by
 unfold nJ;rw[h,ByteArray.toList_eq];rfl
theorem rD {o:Int}{l:List Fm}(h0:isOp o=true)(h1:(aA o).least<=l.length)(h2:l.length<=(aA o).most)(hv:0<=(aA o).val)(hb:0<=(aA o).bound)(hn:(aA o).named=false):bV (iQ o l)=true :=
 Gv h0 h1 h2 (Int.le_refl _) hv (Int.le_refl _) hb (Kv hn)
theorem su {ins:Bool}{o:Int}(h:o=1\/o=2):allI bH ins (iQ o []):=by
 rw[bT];refine⟨?_,fun g hg=>by cases hg⟩
 rcases h with rfl|rfl
 ·exact lW rfl (rD rfl (by decide) (by decide) (by decide) (by decide) rfl) (fun h=>by cases h) (fun e=>by simp[iQ,Fm.op]at e)
 ·exact lW rfl (rD rfl (by decide) (by decide) (by decide) (by decide) rfl) (fun h=>by cases h) (fun e=>by simp[iQ,Fm.op]at e)
theorem N9 {p:Int}(hp:p=5\/p=6){h:Fm}(hh:allI bH false h):∀n,allI bH false (jO p n h)
 | 0=>hh
 | n+1=>by
  have hr:=N9 hp hh n
  have e8:allI bH false (iQ 8 [jO p n h]):=by
   rw[bT];refine⟨lW rfl (rD rfl (Nat.le_refl _) (Nat.le_refl _) (by decide) (by decide) rfl) (fun _=>rfl) (fun e=>by simp[iQ,Fm.op]at e),fun g hg=>?_⟩;simp only[iQ,Fm.args,List.mem_singleton]at hg;subst hg;exact hr
  rw[jO,bT];refine⟨?_,fun g hg=>?_⟩
  ·rcases hp with rfl|rfl
   ·exact lW rfl (rD rfl (Nat.le_refl _) (by simp[aA,isOp,fV,dU,manyN]) (by decide) (by decide) rfl) (fun h=>by cases h) (fun e=>by simp[iQ,Fm.op]at e)
   ·exact lW rfl (rD rfl (Nat.le_refl _) (by simp[aA,isOp,fV,dU,manyN]) (by decide) (by decide) rfl) (fun h=>by cases h) (fun e=>by simp[iQ,Fm.op]at e)
  ·have hpast:(aA (iQ p [h,iQ 8 [jO p n h]]).op).past=false:=by rcases hp with rfl|rfl <;> rfl
   rw[hpast];simp only[iQ,Fm.args,List.mem_cons,List.not_mem_nil,or_false]at hg
   rcases hg with rfl|rfl
   ·exact hh
   ·exact e8
theorem Kw {s s':Form}(h:s.named=false)(h':s'.named=false){n:ByteArray}(hn:nJ s n=true):nJ s' n=true:=by
 unfold nJ at hn⊢;rw[h]at hn;rw[h'];exact hn
theorem qaS (f:Fm):∀(ins:Bool),allI qI ins f->allI mV ins f->∀b,allI bH ins (kf b f):=by
 refine Fm.ind (P:=fun f=>∀(ins:Bool),allI qI ins f->allI mV ins f->∀b,allI bH ins (kf b f)) ?_ f;intro f ih ins hf hy b;obtain⟨hs,ha⟩:=bT.1 hf;obtain⟨hl0,hla⟩:=bT.1 hy;have hs:bV f=true:=hs;have hl:(!((aA f.op).future&&ins))=true:=hl0;clear hl0;have hout:=gq hs;have hp:=wI hs;obtain⟨o,n,v,bd,l⟩:=f
 simp only[Fm.op,Fm.name,Fm.val,Fm.bound,Fm.args]at *
 rcases hp with⟨rfl,rfl⟩|⟨rfl,g,rfl⟩|⟨ho,g,rfl⟩|hg
 ·have his:allI bH ins (.mk 3 n v 0 []):=by
   rw[bT];refine⟨lW rfl (Gv rfl (Nat.le_refl _) (Nat.le_refl _) hout.2.2.2.1 hout.2.2.2.2.1 (Int.le_refl _) (show(0:Int)<=(aA 3).bound by decide) hout.2.2.2.2.2.2.2) (fun h=>by cases h) (fun e=>by simp[Fm.op]at e),fun g hg=>by cases hg⟩
  cases b
  ·rw[Dt];exact his
  ·rw[lY,bT]
   refine⟨lW rfl (rD rfl (Nat.le_refl _) (Nat.le_refl _) (by decide) (by decide) rfl) (fun h=>by cases h) (fun _=>rfl),fun g hg=>?_⟩;simp only[iQ,Fm.args,List.mem_singleton]at hg;subst hg
   have:(ins || (aA (iQ 4 [QN n v]).op).past)=ins:=by cases ins <;> rfl
   rw[this];exact his
 ·rw[uy]
  have h1:=ih g (by simp) _ (ha g (by simp)) (hla g (by simp)) (!b)
  have:(ins || (aA 4).past)=ins:=by cases ins <;> rfl
  rw[this]at h1;exact h1
 ·rw[Kr ho]
  have hins:ins=false:=by
   have hfu:(aA o).future=true:=by rcases ho with rfl|rfl <;> rfl
   rw[hfu]at hl;cases ins
   ·rfl
   ·cases hl
  subst hins;have h1:=ih g (by simp) _ (ha g (by simp)) (hla g (by simp)) b
  have:(false || (aA o).past)=false:=by rcases ho with rfl|rfl <;> rfl
  rw[this]at h1;exact N9 (by rcases ho with rfl|rfl <;> cases b <;> simp[aY,sK,oU]) h1 _
 ·have F:=NS hg b
  rw[yT hg,bT];obtain⟨_,q2,q3,q4,q5,_,_,q8⟩:=hout;refine⟨lW F.loose (Gv ?_ ?_ ?_ (F.vmin v q5 q4) (F.vmax v q5 q4) (Int.le_refl _) F.bmax (Kw F.qdu F.named q8)) (fun h=>?_) (fun e=>absurd e F.ne4),fun x hx=>?_⟩
  ·have:=F.gen
   unfold yC at this;rw[Bool.and_eq_true]at this;exact this.1
  ·simp only[Fm.op,Fm.args,List.length_append,Ac]
   exact F.least _ q2 q3
  ·simp only[Fm.op,Fm.args,List.length_append,Ac]
   exact F.most _ q2 q3
  ·rw[F.fut h]at hl
   cases ins
   ·rfl
   ·cases hl
  ·have hpast:(aA (Fm.mk (aY b o) n (fK b o v) 0 (jd b o++zu (lM b o) (kX b o) l)).op).past=(aA o).past:=F.past
   rw[hpast];simp only[Fm.args,List.mem_append]at hx
   rcases hx with hx|hx
   ·rcases F.qfS x hx with rfl|rfl
    ·exact su (.inl rfl)
    ·exact su (.inr rfl)
   ·obtain⟨g,c,hg',rfl⟩:=TF hx
    exact ih g hg' _ (ha g hg') (hla g hg') c
theorem qaT (f:Fm):∀(ins:Bool),allI bH ins f->kf false f=f:=by
 refine Fm.ind (P:=fun f=>∀(ins:Bool),allI bH ins f->kf false f=f) ?_ f;intro f ih ins hf;obtain⟨hq,ha⟩:=bT.1 hf;unfold bH yZ at hq;simp only[Bool.and_eq_true]at hq;obtain⟨⟨⟨hlo,hs⟩,_⟩,hn⟩:=hq;have hout:=gq hs;have hp:=wI hs;obtain⟨o,n,v,bd,l⟩:=f
 simp only[Fm.op,Fm.name,Fm.val,Fm.bound,Fm.args]at *
 obtain⟨_,_,_,q4,q5,q6,q7,q8⟩:=hout
 rcases hp with⟨rfl,rfl⟩|⟨rfl,g,rfl⟩|⟨ho,g,rfl⟩|hg
 ·have:bd=0:=by have:(aA 3).bound=0:=rfl;omega
  rw[Dt,this]
 ·have hg3:g.op=3:=by cases g;simpa[Fm.op,Fm.args]using hn
  obtain⟨hq',_⟩:=bT.1 (ha g (by simp));unfold bH at hq';simp only[Bool.and_eq_true]at hq';have hs':=hq'.1.1.2;have qfD:=gq hs';have hn0:=Q7 (by rw[hg3];rfl) hs';rw[uy];obtain⟨o',n',v',b',l'⟩:=g
  simp only[Fm.op,Fm.name,Fm.val,Fm.bound,Fm.args]at *
  subst hg3 hn0;have hb':b'=0:=by have:(aA 3).bound=0:=rfl;have:=qfD.2.2.2.2.2;omega
  have hb:bd=0:=by have:(aA 4).bound=0:=rfl;omega
  have hv:v=0:=by have:(aA 4).val=0:=rfl;omega
  have hne:n=⟨#[]⟩:=Qn q8;subst hb' hb hv hne;exact lY n' v' 0
 ·rcases ho with rfl|rfl <;> cases hlo
 ·have hmap:zu false false l=l:=by
   rw[Kt]
   conv=>rhs;rw[<-List.map_id l]
   exact List.map_congr_left fun g hg=>ih g hg _ (ha g hg)
  rw[yT hg]
  have hb0:(aA o).bound=0:=by
   rcases xC hg with rfl|rfl|rfl|rfl|rfl|rfl|rfl|rfl|rfl|rfl|rfl|rfl|rfl|rfl|rfl <;> rfl
  have hb:bd=0:=by omega
  have hfull:aY false o=o/\jd false o = []/\lM false o=false/\kX false o=false/\kQ o=false:=by
   rcases xC hg with rfl|rfl|rfl|rfl|rfl|rfl|rfl|rfl|rfl|rfl|rfl|rfl|rfl|rfl|rfl <;> first|(cases hlo;done)|exact⟨rfl,rfl,rfl,rfl,rfl⟩
  obtain⟨e1,e2,e3,e4,e5⟩:=hfull
  have ev:fK false o v=v:=by
   unfold fK;rw[e5]
   cases wC o <;> rfl
  rw[e1,e2,e3,e4,hmap,hb,ev];rfl
end Go.Proofs.YtdpbgcmfeajigaaGreatDoor
namespace Go.Proofs.YtdpbgcmfeajigaaGreatDoor
open Go.RowKit Go.Shelf
attribute [local go_sem] ak
theorem Am {V:Dom}{w w':World}{base n size:Nat}{e:TypeId}{v:Value}{xs:List Value}(h:w.ownsRow base e size v n xs)(hc:aH V w w')(hv:∀k,v.ownBlock=some k->¬V k):w'.ownsRow base e size v n xs:=by
 refine⟨h.1,?_⟩
 rcases h.2 with h0|⟨g,cap,cur,rfl,hb,hg,h1,h2,h3,h4⟩
 ·exact .inl h0
 ·exact .inr ⟨g,cap,cur,rfl,hb,(hc.block g (lt_of_block hg) (hv g rfl)).trans hg,h1,h2,h3,h4⟩
theorem Aq {w:World}{base n size g c:Nat}{e:TypeId}{xs:List Value}(h:w.ownsRow base e size (.slice (some ⟨g,0,none⟩) n c) n xs){j:Nat}(hj:j<n*size)(u:Value):(w.setCell ⟨g,j,none⟩ u).ownsRow base e size (.slice (some ⟨g,0,none⟩) n c) n (xs.set j u):=by
 refine⟨by rw[List.length_set];exact h.1,?_⟩
 rcases h.2 with⟨h0,_⟩|⟨g',cap,cur,hv,hb,hg,h1,h2,h3,h4⟩
 ·cases h0
 ·injection hv with e1 e2 e3
  injection e1 with e1
  injection e1 with e1
  subst e1 e3;refine .inr ⟨g,c,_,rfl,hb,aC hg u,h1,h2,by simpa using h3,?_⟩;rw[Array.toList_setIfInBounds,<-h4,List.take_set]
theorem mJ {w:World}{base n size g c:Nat}{e:TypeId}{xs:List Value}(h:w.ownsRow base e size (.slice (some ⟨g,0,none⟩) n c) n xs){j:Nat}{u:Value}(hu:xs[j]?=some u):w.cell? ⟨g,j,none⟩=some u/\w.frozen? ⟨g,j,none⟩=false/\g<w.heap.size:=by
 rcases h.2 with⟨h0,_⟩|⟨g',cap,cur,hv,hb,hg,h1,h2,h3,h4⟩
 ·cases h0
 ·injection hv with e1 e2 e3
  injection e1 with e1
  injection e1 with e1
  subst e1 e3;refine⟨aj hg ?_,aB hg,lt_of_block hg⟩;rw[<-h4,List.getElem?_take]at hu
  split at hu
  ·simpa using hu
  ·cases hu
def Nw (base:Nat)(w:World):Dom:=fun k=>base<=k/\Cl w k
theorem Nw.keep {base:Nat}{w w':World}{D:Dom}(hk:Keeps D w w')(hD:∀k,Nw base w k->D k){k:Nat}(h:Nw base w k):Nw base w' k:=⟨h.1,h.2.of_eq (hk.block k (hD k h) h.2.lt)⟩
theorem bP.nw {w w':World}{base:Nat}{l:List Fm}{A:Option Addr}{c:Nat}{V:Dom}(h:bP w (Nw base w) l A c)(hc:aH V w w')(hv:∀k,V k->k<base):bP w' (Nw base w') l A c:=by
 have hk:Keeps (Nw base w) w w':=hc.keeps fun k _ hk hv'=>by have:=hv k hv';have:=hk.1;omega
 exact(h.keep hk).mono fun k hk' _=>hk'.keep hk (fun _ h=>h)
theorem bP.base {w:World}{base base':Nat}{l:List Fm}{A:Option Addr}{c:Nat}(h:bP w (Nw base w) l A c)(hb:base'<=base):bP w (Nw base' w) l A c:=h.mono fun k hk _=>⟨Nat.le_trans hb hk.1,hk.2⟩
structure bM (w:World) (base:Nat) (A:Option Addr) (c:Nat) (gs:List Fm) (sl:List (Option Addr×Nat)):Prop where
 own:w.ownsRow base 24 5 (.slice A gs.length c) gs.length (bJ gs sl)
 len:sl.length=gs.length
 arg:∀i,i<gs.length->bP w (fun k=>Nw base w k/\(Value.slice A gs.length c).ownBlock≠some k) (gs.getD i default).args (sl.getD i (none,0)).1 (sl.getD i (none,0)).2
theorem iI {gs:List Fm}{sl:List (Option Addr×Nat)}(h:sl.length=gs.length):(bJ gs sl).length=gs.length*5:=by
 unfold bJ
 have:∀l:List (Fm×(Option Addr×Nat)),(l.flatMap fun p=>eH p.1 p.2).length=l.length*5:=by
  intro l
  induction l with
  | nil=>rfl
  | cons x l ih =>
   rw[List.flatMap_cons,List.length_append,ih,List.length_cons,Nat.add_mul,Nat.one_mul,Nat.add_comm];rfl
 rw[this,List.length_zip,h,Nat.min_self]
theorem nV {gs ms:List Fm}{sl sm:List (Option Addr×Nat)}(h:sl.length=gs.length):bJ (gs++ms) (sl++sm)=bJ gs sl++bJ ms sm:=by
 unfold bJ;rw[List.zip_append h.symm,List.flatMap_append]
section
variable {w w':World}{base c:Nat}{A:Option Addr}{gs:List Fm}{sl:List (Option Addr×Nat)}
theorem bM.nil (w:World)(base:Nat):bM w base none 0 [] []:=⟨⟨rfl,.inl ⟨rfl,rfl⟩⟩,rfl,fun i h=>absurd h (Nat.not_lt_zero _)⟩
theorem bM.ge (h:bM w base A c gs sl){k:Nat}(hk:(Value.slice A gs.length c).ownBlock=some k):base<=k/\k<w.heap.size:=by
 rcases h.own.2 with⟨h0,_⟩|⟨g,cap,cur,hv,hb,hg,_⟩
 ·rw[h0]at hk;cases hk
 ·rw[hv]at hk
  injection hk with hk
  have:g=k:=hk;subst this;exact⟨hb,lt_of_block hg⟩
theorem bM.dV {V:Dom}(h:bM w base A c gs sl)(hc:aH V w w')(hv:∀k,V k->k<base):bM w' base A c gs sl:=by
 refine⟨Am h.own hc fun k hk hv'=>by have:=hv k hv';have:=h.ge hk;omega,h.len,fun i hi=>?_⟩;have hk:Keeps (fun k=>Nw base w k/\(Value.slice A gs.length c).ownBlock≠some k) w w':=hc.keeps fun k _ hk hv'=>by have:=hv k hv';have:=hk.1.1;omega
 exact((h.arg i hi).keep hk).mono fun k hk' _=>⟨⟨hk'.1.1,hk'.1.2.of_eq (hk.block k hk' hk'.1.2.lt)⟩,hk'.2⟩
theorem bM.rd (h:bM w base A c gs sl)(hn:gs.length<=140737488355328):bP w (Nw base w) gs A c:=by
 refine .mk gs A c sl h.len ?_ fun i hi=>(h.arg i hi).mono fun k hk _=>hk.1
 rcases h.own.2 with⟨hv,h0⟩|⟨g,cap,cur,hv,hb,hh,h1,h2,hsz,htk⟩
 ·injection hv with hA _ hc
  have:gs = []:=List.eq_nil_of_length_eq_zero h0;subst this hc;have hl:=h.len;have:sl = []:=List.eq_nil_of_length_eq_zero hl;subst this;exact Rd.nil _ _ _ _ (by omega)
 ·injection hv with hA _ hc
  subst hA hc;refine⟨⟨h.own.1,hn,h1,h2⟩,fun hn=>⟨g,0,rfl,⟨hb,_,_,hh⟩,lt_of_block hh,fun j u hu=>?_⟩⟩;rw[<-htk,List.getElem?_take]at hu
  split at hu
  ·simp[World.cell?,hh];simpa using hu
  ·cases hu
theorem bM.app {A':Option Addr}{c' n:Nat}{ms:List Fm}{sm:List (Option Addr×Nat)}(h:bM w base A c gs sl)(hg:w.grownBy w' (Value.slice A gs.length c).ownBlock)(hn:n=(gs++ms).length)
  (hown:w'.ownsRow base 24 5 (.slice A' n c') n (bJ gs sl++bJ ms sm)) (hb:(Value.slice A' n c').ownBlock=(Value.slice A gs.length c).ownBlock\/(Value.slice A' n c').ownBlock=some w.heap.size) (hsm:sm.length=ms.length)
  (hms:∀i,i<ms.length->bP w (fun k=>Nw base w k/\(Value.slice A gs.length c).ownBlock≠some k) (ms.getD i default).args (sm.getD i (none,0)).1 (sm.getD i (none,0)).2):bM w' base A' c' (gs++ms) (sl++sm):=by
 subst hn
 have key:∀{l:List Fm} {B:Option Addr} {d:Nat},bP w (fun k=>Nw base w k/\(Value.slice A gs.length c).ownBlock≠some k) l B d->bP w' (fun k=>Nw base w' k/\(Value.slice A' (gs++ms).length c').ownBlock≠some k) l B d:=fun h1=>by
  have hk:Keeps (fun k=>Nw base w k/\(Value.slice A gs.length c).ownBlock≠some k) w w':=⟨hg.size,fun k hk hl=>hg.block k hl (fun e=>hk.2 e.symm)⟩;have h2:=h1.keep hk
  refine(h1.mono (E:=fun k=>(Nw base w k/\(Value.slice A gs.length c).ownBlock≠some k)/\k<w.heap.size) fun k hk hl=>⟨hk,hl⟩).keep (w':=w') ⟨hg.size,fun k hk hl=>hg.block k hl (fun e=>hk.1.2 e.symm)⟩ |>.mono fun k hk' _=>⟨⟨hk'.1.1.1,hk'.1.1.2.of_eq (hg.block k hk'.2 (fun e=>hk'.1.2 e.symm))⟩,fun e=>?_⟩
  rcases hb with hb|hb
  ·rw[hb]at e;exact hk'.1.2 e
  ·rw[hb]at e
   injection e with e
   have:=hk'.2;omega
 refine⟨by rw[nV h.len];exact hown,by rw[List.length_append,List.length_append,h.len,hsm],fun i hi=>?_⟩
 by_cases hl:i<gs.length
 ·have e1:(gs++ms).getD i default=gs.getD i default:=by simp[List.getD,List.getElem?_append_left hl]
  have e2:(sl++sm).getD i (none,0)=sl.getD i (none,0):=by simp[List.getD,List.getElem?_append_left (show i<sl.length by rw[h.len];exact hl)]
  rw[e1,e2];exact key (h.arg i hl)
 ·have hl2:i-gs.length<ms.length:=by rw[List.length_append]at hi;omega
  have e1:(gs++ms).getD i default=ms.getD (i-gs.length) default:=by simp[List.getD,List.getElem?_append_right (show gs.length<=i by omega)]
  have e2:(sl++sm).getD i (none,0)=sm.getD (i-gs.length) (none,0):=by simp[List.getD,List.getElem?_append_right (show sl.length<=i by rw[h.len];omega),h.len]
  rw[e1,e2];exact key (hms _ hl2)
end
def dL:Fm := .mk 0 ⟨#[]⟩ 0 0 []
theorem Dh (g:Fm)(gs:List Fm)(s:Option Addr×Nat)(sl:List (Option Addr×Nat)):bJ (g :: gs) (s :: sl)=eH g s++bJ gs sl:=rfl
theorem EZ:∀(gs:List Fm) (sl:List (Option Addr×Nat)) (i:Nat) (f:Fm) (s:Option Addr×Nat),i<gs.length->sl.length=gs.length ->
  (((((bJ gs sl).set (i*5) (.int .i64 f.op)).set (i*5+1) (.string f.name)).set (i*5+2) (.int .i64 f.val)).set (i*5+3) (.int .i64 f.bound)).set (i*5+4) (.slice s.1 f.args.length s.2)=bJ (gs.set i f) (sl.set i s)
 | [],_,i,_,_,h,_=>absurd h (Nat.not_lt_zero _)
 | g :: gs,[],_,_,_,_,h=>by cases h
 | g :: gs,t :: sl,0,f,s,_,_=>rfl
 | g :: gs,t :: sl,i+1,f,s,h,hl=>by
  have ih:=EZ gs sl i f s (by simpa using h) (by simpa using hl);rw[List.set_cons_succ,List.set_cons_succ,Dh,Dh,<-ih];have e0:(eH g t).length=5:=rfl;have e:∀r,(i+1)*5+r-5=i*5+r:=fun r=>by omega
  have e':(i+1)*5-5=i*5:=by omega
  rw[List.set_append_right _ _ (by omega),List.set_append_right _ _ (by omega),List.set_append_right _ _ (by omega),List.set_append_right _ _ (by omega),List.set_append_right _ _ (by omega),e0,e,e,e,e,e']
theorem qP {α : Type}{l:List α}{i:Nat}{x d : α}(h:i<l.length):(l.set i x).getD i d=x:=by simp[List.getD,h]
theorem getD_set_ne {α : Type}{l:List α}{i j:Nat}{x d : α}(h:i≠j):(l.set i x).getD j d=l.getD j d:=by simp[List.getD,List.getElem?_set,h]
theorem bM.set {w:World}{base g c:Nat}{gs:List Fm}{sl:List (Option Addr×Nat)}(h:bM w base (some ⟨g,0,none⟩) c gs sl){i:Nat}(hi:i<gs.length)(f:Fm)(A:Option Addr)(d:Nat)
  (hf:bP w (fun k=>Nw base w k/\k≠g) f.args A d) :
  bM (((((w.setCell ⟨g,i*5,none⟩ (.int .i64 f.op)).setCell ⟨g,i*5+1,none⟩ (.string f.name)).setCell ⟨g,i*5+2,none⟩ (.int .i64 f.val)).setCell ⟨g,i*5+3,none⟩ (.int .i64 f.bound)).setCell ⟨g,i*5+4,none⟩ (.slice A f.args.length d)) base (some ⟨g,0,none⟩) c (gs.set i f) (sl.set i (A,d)):=by
 obtain⟨w',hw'⟩:∃w',w'=(((((w.setCell ⟨g,i*5,none⟩ (.int .i64 f.op)).setCell ⟨g,i*5+1,none⟩ (.string f.name)).setCell ⟨g,i*5+2,none⟩ (.int .i64 f.val)).setCell ⟨g,i*5+3,none⟩ (.int .i64 f.bound)).setCell ⟨g,i*5+4,none⟩ (.slice A f.args.length d)):=⟨_,rfl⟩
 have hc:aH (fun k=>k=g) w w':=by
  rw[hw'];exact(((((aH.refl (fun k=>k=g) w).set ⟨g,_,none⟩ _ fun _=>rfl).set ⟨g,_,none⟩ _ fun _=>rfl).set ⟨g,_,none⟩ _ fun _=>rfl).set ⟨g,_,none⟩ _ fun _=>rfl).set ⟨g,_,none⟩ _ fun _=>rfl
 have hown:w'.ownsRow base 24 5 (.slice (some ⟨g,0,none⟩) gs.length c) gs.length (bJ (gs.set i f) (sl.set i (A,d))):=by
  have h0:=Aq (Aq (Aq (Aq (Aq h.own (j:=i*5) (by omega) (.int .i64 f.op)) (j:=i*5+1) (by omega) (.string f.name)) (j:=i*5+2) (by omega) (.int .i64 f.val)) (j:=i*5+3) (by omega) (.int .i64 f.bound)) (j:=i*5+4) (by omega) (.slice A f.args.length d);rw[EZ gs sl i f (A,d) hi h.len]at h0;rw[hw'];exact h0
 rw[<-hw'];clear hw'
 have key:∀{l:List Fm} {B:Option Addr} {e:Nat},bP w (fun k=>Nw base w k/\k≠g) l B e->bP w' (fun k=>Nw base w' k/\(Value.slice (some ⟨g,0,none⟩) gs.length c).ownBlock≠some k) l B e:=fun h1=>by
  have hk:Keeps (fun k=>Nw base w k/\k≠g) w w':=hc.keeps fun k _ hk hv=>hk.2 hv;exact(h1.keep hk).mono fun k hk' _=>⟨⟨hk'.1.1,hk'.1.2.of_eq (hk.block k hk' hk'.1.2.lt)⟩,fun e=>by injection e with e;exact hk'.2 e.symm⟩
 refine⟨by rw[List.length_set];exact hown,by rw[List.length_set,List.length_set];exact h.len,fun j hj=>?_⟩;rw[List.length_set]at hj⊢
 by_cases e:i=j
 ·subst e
  rw[qP hi,qP (by rw[h.len];exact hi)];exact key hf
 ·rw[getD_set_ne e,getD_set_ne e]
  exact key ((h.arg j hj).mono fun k hk _=>⟨hk.1,fun e=>hk.2 (by rw[e];rfl)⟩)
def BB (w:World)(bb:Nat)(left:Int)(over:Bool):Prop:=w.heap[bb]?=some (.cells #[.int .i64 left,.bool over] 107 (0,0))
theorem BB.dV {V:Dom}{w w':World}{bb:Nat}{left:Int}{over:Bool}(h:BB w bb left over)(hc:aH V w w')(hv:¬V bb):BB w' bb left over:=hc.box h hv
theorem BB.below {w w':World}{bb:Nat}{left:Int}{over:Bool}(h:BB w bb left over)(hb:Below w.heap.size w w'):BB w' bb left over:=(hb.block _ (lt_of_block h)).trans h
theorem BB.drawn {w w':World}{bb:Nat}{left:Int}{over:Bool}(h:BB w bb left over)(hd:aU w w'):BB w' bb left over:=h.below (hd.below _)
def eu (left:Int)(over:Bool)(d:Int):Bool:=over || (decide (left-1<0) || decide (d<1))
theorem take_any (bb:Nat)(left d:Int)(over:Bool)(w:World)(h:BB w bb left over)(h0 : -1000000<=left)(h1:left<=1000000) :
  Calls Tryz.prog 110 #[.pointer (some ⟨bb,0,none⟩),.int .i64 d] w fun e w'=>e = .returned (.bool (!eu left over d))/\aH (fun k=>k=bb) w w'/\BB w' bb (left-1) (eu left over d):=by
 have c0:=aj h (i:=0) rfl;have f0:=aB h (i:=0);have c1:=aj h (i:=1) rfl;have f1:=aB h (i:=1);have hl:=lt_of_block h;have HB:=hid h;have hw:IntKind.i64.wrap (left-1)=left-1:=IntWalk.i64_in _ (by omega);clear h
 by_cases h2:left-1<0
 ·have d2:decide (left-1<0)=true:=decide_eq_true h2
  have HT:=hid (show eu left over d=true by unfold eu;rw[d2];simp)
  go_enter Tryz.func110,Tryz.ntmps110
  go_wp2_with fail
  go_ret
  refine⟨by rw[HT.out];rfl,((aH.refl (fun k=>k=bb) w).set ⟨bb,0,none⟩ _ fun _=>rfl).set ⟨bb,1,none⟩ _ fun _=>rfl,?_⟩;unfold BB;rw[aC (aC HB.out _),HT.out];rfl
 ·have d2:decide (left-1<0)=false:=decide_eq_false h2
  by_cases h3:d<1
  ·have d3:decide (d<1)=true:=decide_eq_true h3
   have HT:=hid (show eu left over d=true by unfold eu;rw[d3];simp)
   go_enter Tryz.func110,Tryz.ntmps110
   go_wp2_with fail
   go_ret
   refine⟨by rw[HT.out];rfl,((aH.refl (fun k=>k=bb) w).set ⟨bb,0,none⟩ _ fun _=>rfl).set ⟨bb,1,none⟩ _ fun _=>rfl,?_⟩;unfold BB;rw[aC (aC HB.out _),HT.out];rfl
  ·have d3:decide (d<1)=false:=decide_eq_false h3
   have HT:=hid (show eu left over d=over by unfold eu;rw[d2,d3];simp)
   go_enter Tryz.func110,Tryz.ntmps110
   go_wp2_with fail
   go_ret
   refine⟨by rw[HT.out];rfl,(aH.refl (fun k=>k=bb) w).set ⟨bb,0,none⟩ _ fun _=>rfl,?_⟩;unfold BB;rw[aC HB.out,HT.out];rfl
end Go.Proofs.YtdpbgcmfeajigaaGreatDoor
