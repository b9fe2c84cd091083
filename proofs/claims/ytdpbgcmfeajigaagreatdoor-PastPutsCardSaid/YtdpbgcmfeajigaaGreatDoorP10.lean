/-
  Parts of a proof: GA GB GC HA.
-/
import Derived.Test.YtdpbgcmfeajigaaGreatDoorP09
import Derived.Test.YtdpbgcmfeajigaaGreatDoorP07
set_option linter.unusedSimpArgs false
set_option linter.unusedVariables false
set_option maxHeartbeats 8000000
namespace Go.Proofs.YtdpbgcmfeajigaaGreatDoor
structure ZY (x y z:Int):Prop where
 le:x<=0->y<=0->z<=0
 lt:x<=0->y<=0->x<0\/y<0->z<0
 left:x=0->z=y
 right:y=0->z=x
theorem ZY.nz {x y z x' y' z':Int}(h:ZY x y z)(k:x=0->y=0->ZY x' y' z'):ZY (nz x x') (nz y y') (nz z z'):=by
 obtain⟨h1,h2,h3,h4⟩:=h;unfold Proofs.YtdpbgcmfeajigaaGreatDoor.nz
 by_cases hx:x=0
 ·have hz:=h3 hx
  by_cases hy:y=0
  ·obtain⟨k1,k2,k3,k4⟩:=k hx hy
   have hz0:z=0:=by omega
   rw[if_pos hx,if_pos hy,if_pos hz0];exact⟨k1,k2,k3,k4⟩
  ·have hz0:¬z=0:=by omega
   rw[if_pos hx,if_neg hy,if_neg hz0];exact⟨by omega,by omega,by omega,by omega⟩
 ·by_cases hy:y=0
  ·have hz:=h4 hy
   have hz0:¬z=0:=by omega
   rw[if_neg hx,if_pos hy,if_neg hz0];exact⟨by omega,by omega,by omega,by omega⟩
  ·rw[if_neg hx,if_neg hy]
   by_cases hz0:z=0
   ·rw[if_pos hz0]
    exact⟨by omega,by omega,by omega,by omega⟩
   ·rw[if_neg hz0]
    exact⟨by omega,by omega,by omega,by omega⟩
theorem sN (a b c:Int):ZY (jR a b) (jR b c) (jR a c):=by
 unfold jR
 constructor <;> (split <;> split <;> split) <;> omega
theorem sK (a b:Int):jR b a = -jR a b:=by
 unfold jR
 split <;> split <;> omega
theorem uK {a b a' b':Int}(h:b = -a)(h':a=0->b' = -a'):nz b b' = -nz a a':=by
 unfold nz
 by_cases e:a=0
 ·rw[if_pos e,if_pos (by omega),h' e]
 ·rw[if_neg e,if_neg (by omega),h]
theorem wK {a b:Int}(h:nz a b=0):b=0:=by
 have:=iT h;rw[this,dH]at h;exact h
def qfF (a b:UInt8):Int:=jR a.toNat b.toNat
theorem iO (a b:UInt8)(x y:List UInt8):Go.Lib.compareBytes (a :: x) (b :: y)=nz (qfF a b) (Go.Lib.compareBytes x y):=by
 rw[Go.Lib.compareBytes];unfold qfF jR nz
 by_cases h1:a<b
 ·have h2:(a.toNat:Int)<b.toNat:=by have:=UInt8.lt_iff_toNat_lt.1 h1;omega
  simp[h1,h2]
 ·have h2:¬(a.toNat:Int)<b.toNat:=fun h=>h1 (UInt8.lt_iff_toNat_lt.2 (by omega))
  by_cases h3:b<a
  ·have h4:(b.toNat:Int)<a.toNat:=by have:=UInt8.lt_iff_toNat_lt.1 h3;omega
   simp[h1,h2,h3,h4]
  ·have h4:¬(b.toNat:Int)<a.toNat:=fun h=>h3 (UInt8.lt_iff_toNat_lt.2 (by omega))
   simp[h1,h2,h3,h4]
theorem IG:∀a b c:List UInt8,ZY (Go.Lib.compareBytes a b) (Go.Lib.compareBytes b c) (Go.Lib.compareBytes a c)
 | [],[],[]=>⟨by simp[Go.Lib.compareBytes],by simp[Go.Lib.compareBytes],by simp[Go.Lib.compareBytes],by simp[Go.Lib.compareBytes]⟩
 | [],[],_ :: _=>⟨by simp[Go.Lib.compareBytes],by simp[Go.Lib.compareBytes],by simp[Go.Lib.compareBytes],by simp[Go.Lib.compareBytes]⟩
 | [],_ :: _,[]=>⟨by simp[Go.Lib.compareBytes],by simp[Go.Lib.compareBytes],by simp[Go.Lib.compareBytes],by simp[Go.Lib.compareBytes]⟩
 | _ :: _,[],[]=>⟨by simp[Go.Lib.compareBytes],by simp[Go.Lib.compareBytes],by simp[Go.Lib.compareBytes],by simp[Go.Lib.compareBytes]⟩
 | [],b :: y,c :: z=>by
  have h1:Go.Lib.compareBytes [] (b :: y) = -1:=by simp[Go.Lib.compareBytes]
  have h2:Go.Lib.compareBytes [] (c :: z) = -1:=by simp[Go.Lib.compareBytes]
  rw[h1,h2];exact⟨by omega,by omega,by omega,fun _=>rfl⟩
 | a :: x,[],c :: z=>by
  have h1:Go.Lib.compareBytes (a :: x) []=1:=by simp[Go.Lib.compareBytes]
  have h2:Go.Lib.compareBytes [] (c :: z) = -1:=by simp[Go.Lib.compareBytes]
  rw[h1,h2];exact⟨by omega,by omega,by omega,by omega⟩
 | a :: x,b :: y,[]=>by
  have h1:Go.Lib.compareBytes (a :: x) []=1:=by simp[Go.Lib.compareBytes]
  have h2:Go.Lib.compareBytes (b :: y) []=1:=by simp[Go.Lib.compareBytes]
  rw[h1,h2];exact⟨by omega,by omega,fun _=>rfl,by omega⟩
 | a :: x,b :: y,c :: z=>by
  rw[iO,iO,iO];exact(sN _ _ _).nz fun _ _=>IG x y z
theorem EY:∀a b:List UInt8,Go.Lib.compareBytes b a = -Go.Lib.compareBytes a b
 | [],[]=>by simp[Go.Lib.compareBytes]
 | [],_ :: _=>by simp[Go.Lib.compareBytes]
 | _ :: _,[]=>by simp[Go.Lib.compareBytes]
 | a :: x,b :: y=>by
  rw[iO,iO];exact uK (sK _ _) fun _=>EY x y
theorem Nh (a b c:ByteArray):ZY (oK a b) (oK b c) (oK a c):=by
 rw[<-gW,<-gW,<-gW];exact IG _ _ _
theorem II (a b:ByteArray):oK b a = -oK a b:=by
 rw[<-gW,<-gW];exact EY _ _
theorem J7 {a b:ByteArray}(h:oK a b=0):a=b:=by
 have h1:=qo.1 h;rw[ByteArray.toList_eq,ByteArray.toList_eq]at h1;have h2:a.data.toList=b.data.toList:=by simpa using h1
 cases a;cases b;simp only at h2;rw[Array.toList_inj.1 h2]
theorem IJ (a:ByteArray):oK a a=0:=qo.2 (by simp)
theorem Yz (f g h:Fm):ZY (bY f g) (bY g h) (bY f h) :=
 (sN _ _ _).nz fun _ _=>(Nh _ _ _).nz fun _ _=>(sN _ _ _).nz fun _ _=>(sN _ _ _).nz fun _ _=>sN _ _ _
theorem Vf (f g:Fm):bY g f = -bY f g :=
 uK (sK _ _) fun _=>uK (II _ _) fun _=>uK (sK _ _) fun _=>uK (sK _ _) fun _=>sK _ _
theorem Vg {f g:Fm}(h:bY f g=0):f.op=g.op/\f.name=g.name/\f.val=g.val/\f.bound=g.bound/\f.args.length=g.args.length:=by
 have hl:=gy h;unfold bY at h;have r1:=wK h;have r2:=wK r1;have r3:=wK r2;exact⟨jd.1 (iT h),J7 (iT r1),jd.1 (iT r2),jd.1 (iT r3),hl⟩
mutual
theorem pO:∀f g h:Fm,ZY (f.cmp g) (g.cmp h) (f.cmp h)
 | .mk o n v b l,.mk o' n' v' b' l',.mk o'' n'' v'' b'' l''=>by
  rw[cmp_eq,cmp_eq,cmp_eq];exact(Yz _ _ _).nz fun h1 h2=>Nj l l' l'' (gy h1) (gy h2)
theorem Nj:∀l m n:List Fm,l.length=m.length->m.length=n.length->ZY (fV l m) (fV m n) (fV l n)
 | [],[],[],_,_=>by simp only[fV];exact sN 0 0 0
 | f :: l,g :: m,h :: n,h1,h2=>by
  simp only[fV];exact(pO f g h).nz fun _ _=>Nj l m n (by simpa using h1) (by simpa using h2)
end
mutual
theorem jV:∀f g:Fm,g.cmp f = -f.cmp g
 | .mk o n v b l,.mk o' n' v' b' l'=>by
  rw[cmp_eq,cmp_eq];exact uK (Vf _ _) fun h=>IL l l' (gy h)
theorem IL:∀l m:List Fm,l.length=m.length->fV m l = -fV l m
 | [],[],_=>by simp[fV]
 | f :: l,g :: m,h=>by
  simp only[fV];exact uK (jV f g) fun _=>IL l m (by simpa using h)
end
mutual
theorem IK:∀f g:Fm,f.cmp g=0->f=g
 | .mk o n v b l,.mk o' n' v' b' l',h=>by
  rw[cmp_eq]at h;obtain⟨h1,h2,h3,h4,h5⟩:=Vg (iT h);exact Fm.ext h1 h2 h3 h4 (E8 l l' h5 (wK h))
theorem E8:∀l m:List Fm,l.length=m.length->fV l m=0->l=m
 | [],[],_,_=>rfl
 | f :: l,g :: m,h1,h2=>by
  simp only[fV]at h2;rw[IK f g (iT h2),E8 l m (by simpa using h1) (wK h2)]
end
theorem kS {f g:Fm}:f.cmp g=0 ↔ f=g:=⟨IK f g,fun h=>by rw[h];exact sO g⟩
mutual
theorem EU {q:Fm×Bool->Bool}(hq:∀x,q (x,true)=true->q (x,false)=true):∀(f:Fm),(dV true f).all q=true->(dV false f).all q=true
 | .mk o n v b l,h=>by
  rw[mM,List.all_cons,Bool.and_eq_true]at h;rw[mM,List.all_cons,Bool.and_eq_true];refine⟨hq _ h.1,?_⟩;have h2:=h.2;simp only[Bool.true_or,Bool.false_or,Fm.op,Fm.args]at h2⊢;cases(aI o).past
  ·exact Iz hq l h2
  ·exact h2
theorem Iz {q:Fm×Bool->Bool}(hq:∀x,q (x,true)=true->q (x,false)=true):∀(l:List Fm),(ji true l).all q=true->(ji false l).all q=true
 | [],_=>rfl
 | f :: l,h=>by
  simp only[ji,List.all_append,Bool.and_eq_true]at h⊢;exact⟨EU hq f h.1,Iz hq l h.2⟩
end
theorem zD {q:Fm×Bool->Bool}{ins:Bool}:∀{l:List Fm} {g:Fm},g∈l->(ji ins l).all q=true->(dV ins g).all q=true
 | [],g,h,_=>by cases h
 | f :: l,g,h,ha=>by
  simp only[ji,List.all_append,Bool.and_eq_true]at ha
  rcases List.mem_cons.1 h with e|e
  ·rw[e];exact ha.1
  ·exact zD e ha.2
theorem JZ {q:Fm×Bool->Bool}{ins:Bool}:∀{l:List Fm},(∀g,g∈l->(dV ins g).all q=true)->(ji ins l).all q=true
 | [],_=>rfl
 | f :: l,h=>by
  simp only[ji,List.all_append,Bool.and_eq_true];exact⟨h f (by simp),JZ fun g hg=>h g (by simp[hg])⟩
theorem zB {q:Fm×Bool->Bool}(hq:∀x,q (x,true)=true->q (x,false)=true){f g:Fm}(hg:g∈f.args)(h:allB q f=true):allB q g=true:=by
 unfold allB at h⊢;rw[mM,List.all_cons,Bool.and_eq_true]at h;have:=zD hg h.2;cases hp:(false || (aI f.op).past)
 ·rw[hp]at this;exact this
 ·rw[hp]at this;exact EU hq g this
theorem UA {q:Fm×Bool->Bool}{f:Fm}(h:allB q f=true):q (f,false)=true:=by
 unfold allB at h;rw[mM,List.all_cons,Bool.and_eq_true]at h;exact h.1
theorem XP {q r:Fm×Bool->Bool}(hq:∀x,q x=true->r x=true){f:Fm}(h:allB q f=true):allB r f=true:=by
 unfold allB at h⊢;rw[List.all_eq_true]at h⊢;exact fun x hx=>hq x (h x hx)
theorem Qs (x:Fm):bU (x,true)=true->bU (x,false)=true:=by
 unfold bU;simp only[Bool.and_eq_true];rintro⟨⟨⟨h1,h2⟩,h3⟩,h4⟩;exact⟨⟨⟨h1,h2⟩,by simp⟩,h4⟩
theorem KT {f:Fm}(h:allB dL f=true):allB pV f=true:=XP (fun x hx=>by
 unfold dL at hx;unfold pV;simp only[Bool.not_eq_true']at hx
 rw[hx];rfl) h
theorem Ny {f g:Fm}(hg:g∈f.args){s d:Int}(h:bH f s d=true):bH g s d=true:=by
 rw[gX]at h⊢;have h1:=gJ hg;have h2:=yO hg;rw[Fm.size_eq,Fm.je]at h;omega
theorem WC {f g:Fm}(hg:g∈f.args)(h:kN f=true):kN g=true:=by
 unfold kN at h⊢;rw[Bool.and_eq_true]at h⊢;exact⟨Ny hg h.1,zB (q:=Cm) (fun _ h=>h) hg h.2⟩
def yC (a b:ByteArray):Bool:=Go.Op.bytesLess a.toList b.toList
theorem wo:∀l:List UInt8,Go.Op.bytesLess l l=false
 | []=>rfl
 | a :: l=>by rw[Go.Op.bytesLess];simp[wo l,UInt8.lt_irrefl]
theorem Es (a b:ByteArray):yC a b=true ↔ oK a b<0:=by
 unfold yC oK;cases h:a.toList==b.toList
 ·cases Go.Op.bytesLess a.toList b.toList <;> simp
 ·have e:a.toList=b.toList:=by simpa using h
  rw[e,wo];simp
theorem uH (a:ByteArray):yC a a=false:=by
 cases h:yC a a
 ·rfl
 ·rw[Es,IJ]at h;omega
theorem xO {a b c:ByteArray}(h:yC a b=true)(k:yC b c=true):yC a c=true:=by
 rw[Es]at *
 exact(Nh a b c).lt (by omega) (by omega) (.inl h)
theorem BK {a b:ByteArray}(h:yC a b=false)(hne:a≠b):yC b a=true:=by
 rw[Es,II];have h1:¬oK a b<0:=fun e=>by rw[(Es a b).2 e]at h;cases h
 have h2:oK a b≠0:=fun e=>hne (J7 e);omega
def Asc (l:List ByteArray):Prop:=l.Pairwise fun a b=>yC a b=true
theorem Asc.ext:∀{l m:List ByteArray},Asc l->Asc m->(∀x,x∈l ↔ x∈m)->l=m
 | [],[],_,_,_=>rfl
 | [],b :: m,_,_,h=>absurd ((h b).2 (by simp)) (by simp)
 | a :: l,[],_,_,h=>absurd ((h a).1 (by simp)) (by simp)
 | a :: l,b :: m,h1,h2,h=>by
  rw[Asc,List.pairwise_cons]at h1 h2
  have hab:a=b:=by
   rcases List.mem_cons.1 ((h a).1 (by simp))with e|e
   ·exact e
   ·rcases List.mem_cons.1 ((h b).2 (by simp))with e'|e'
    ·exact e'.symm
    ·have h3:=xO (h2.1 a e) (h1.1 b e')
     rw[uH]at h3;cases h3
  subst hab
  congr 1
  refine Asc.ext h1.2 h2.2 fun x=>⟨fun hx=>?_,fun hx=>?_⟩
  ·rcases List.mem_cons.1 ((h x).1 (by simp[hx]))with e|e
   ·have:=h1.1 x hx
    rw[e,uH]at this;cases this
   ·exact e
  ·rcases List.mem_cons.1 ((h x).2 (by simp[hx]))with e|e
   ·have:=h2.1 x hx
    rw[e,uH]at this;cases this
   ·exact e
def Vl (l:List ByteArray)(s:ByteArray):List ByteArray :=
 if l.any (fun x=>x.toList==s.toList)then l else l.filter (fun x=>yC x s) ++ [s]++l.drop (l.filter fun x=>yC x s).length
theorem lu {a b:ByteArray}:(a.toList==b.toList)=true ↔ a=b:=by
 rw[<-qo];exact⟨J7,fun h=>by rw[h];exact IJ _⟩
theorem yM:∀{l:List ByteArray} (s:ByteArray),Asc l->l=l.filter (fun x=>yC x s)++l.drop (l.filter fun x=>yC x s).length/\∀x,x∈l.drop (l.filter fun x=>yC x s).length->yC x s=false
 | [],s,_=>by simp
 | a :: l,s,h=>by
  have h':=h;rw[Asc,List.pairwise_cons]at h;cases ha:yC a s
  ·have hall:∀x,x∈a :: l->yC x s=false:=by
    intro x hx
    rcases List.mem_cons.1 hx with e|e
    ·rw[e];exact ha
    ·cases hxs:yC x s
     ·rfl
     ·rw[xO (h.1 x e) hxs]at ha;cases ha
   have hf:(a :: l).filter (fun x=>yC x s) = []:=List.filter_eq_nil_iff.2 fun x hx=>by rw[hall x hx];simp
   rw[hf];exact⟨rfl,fun x hx=>hall x hx⟩
  ·obtain⟨i1,i2⟩:=yM s h.2
   rw[List.filter_cons,if_pos ha,List.length_cons,List.drop_succ_cons];exact⟨by rw[List.cons_append,<-i1],i2⟩
theorem YI {l:List ByteArray}{s:ByteArray}(h:Asc l)(x:ByteArray):x∈Vl l s ↔ x∈l\/x=s:=by
 unfold Vl
 by_cases hs:l.any (fun x=>x.toList==s.toList)=true
 ·rw[if_pos hs]
  rw[List.any_eq_true]at hs;obtain⟨y,hy,he⟩:=hs;rw[lu]at he;subst he;exact⟨.inl,fun h=>h.elim id fun e=>e ▸ hy⟩
 ·rw[if_neg hs]
  have e:=(yM s h).1
  have e2:x∈l ↔ x∈l.filter (fun x=>yC x s)\/x∈l.drop (l.filter fun x=>yC x s).length:=by
   conv=>lhs;rw[e]
   exact List.mem_append
  rw[List.mem_append,List.mem_append,e2,List.mem_singleton]
  constructor
  ·rintro((h|h)|h)
   ·exact .inl (.inl h)
   ·exact .inr h
   ·exact .inl (.inr h)
  ·rintro((h|h)|h)
   ·exact .inl (.inl h)
   ·exact .inr h
   ·exact .inl (.inr h)
theorem NR {l:List ByteArray}{s:ByteArray}(h:Asc l):Asc (Vl l s):=by
 unfold Vl
 by_cases hs:l.any (fun x=>x.toList==s.toList)=true
 ·rw[if_pos hs];exact h
 ·rw[if_neg hs]
  obtain⟨e,e2⟩:=yM s h;have hne:∀x,x∈l->x≠s:=fun x hx e=>hs (List.any_eq_true.2 ⟨x,hx,lu.2 e⟩);have h':=h;unfold Asc at h'⊢;rw[e,List.pairwise_append]at h';obtain⟨p1,p2,p3⟩:=h';have hsub:∀x,x∈l.drop (l.filter fun x=>yC x s).length->x∈l:=fun x hx=>List.mem_of_mem_drop hx;have hgt:∀x,x∈l.drop (l.filter fun x=>yC x s).length->yC s x=true:=fun x hx=>BK (e2 x hx) (hne x (hsub x hx));rw[List.append_assoc,List.pairwise_append];refine⟨p1,?_,fun a ha b hb=>?_⟩
  ·rw[List.singleton_append,List.pairwise_cons]
   exact⟨hgt,p2⟩
  ·rw[List.singleton_append,List.mem_cons]at hb
   rcases hb with rfl|hb
   ·exact(List.mem_filter.1 ha).2
   ·exact p3 a ha b hb
def FK (l:List ByteArray)(xs:List ByteArray):List ByteArray:=xs.foldl Vl l
theorem FM:∀(xs:List ByteArray) {l:List ByteArray},Asc l->Asc (FK l xs)
 | [],_,h=>h
 | x :: xs,_,h=>FM xs (NR h)
theorem FN:∀(xs:List ByteArray) {l:List ByteArray},Asc l->∀x,x∈FK l xs ↔ x∈l\/x∈xs
 | [],l,_,x=>by simp[FK]
 | y :: xs,l,h,x=>by
  show x∈FK (Vl l y) xs ↔ _;rw[FN xs (NR h),YI h,List.mem_cons]
  constructor
  ·rintro((h|h)|h)
   ·exact .inl h
   ·exact .inr (.inl h)
   ·exact .inr (.inr h)
  ·rintro(h|h|h)
   ·exact .inl (.inl h)
   ·exact .inl (.inr h)
   ·exact .inr h
def pW (L:List (Fm×Bool)):List ByteArray:=(L.filter fun x=>decide (x.1.op=3)).map fun x=>x.1.name
def Ae (f:Fm):List ByteArray:=pW (dV false f)
def nN (f:Fm):List ByteArray:=FK [] (Ae f)
theorem RH (f:Fm):Asc (nN f):=FM _ List.Pairwise.nil
theorem RI (f:Fm)(x:ByteArray):x∈nN f ↔ x∈Ae f:=by
 unfold nN;rw[FN _ List.Pairwise.nil];simp
theorem KE (x:Fm×Bool)(l:List (Fm×Bool)):pW (x :: l)=(if x.1.op=3 then [x.1.name]else [])++pW l:=by
 unfold pW;rw[List.filter_cons]
 by_cases h:x.1.op=3
 ·rw[if_pos (decide_eq_true h),if_pos h];rfl
 ·rw[if_neg (by rw[decide_eq_false h];simp),if_neg h];rfl
theorem Fm.ind {P:Fm->Prop}(h:∀f,(∀g,g∈f.args->P g)->P f)(f:Fm):P f :=
 Fm.induct (fun f ih=>h f fun g hg=>by
  obtain⟨i,hi,rfl⟩:=List.getElem_of_mem hg;have:=ih i hi
  rwa [List.getD_eq_getElem?_getD,List.getElem?_eq_getElem hi]at this) f
theorem iM {f:Fm}(h:bQ f=true):isOp f.op=true/\(aI f.op).least<=f.args.length/\f.args.length<=(aI f.op).most/\0<=f.val/\f.val<=(aI f.op).val/\0<=f.bound/\f.bound<=(aI f.op).bound/\rM (aI f.op) f.name=true:=by
 unfold bQ at h;simp only[Bool.and_eq_true,decide_eq_true_eq]at h;obtain⟨⟨⟨⟨⟨⟨⟨h1,h2⟩,h3⟩,h4⟩,h5⟩,h6⟩,h7⟩,h8⟩:=h;exact⟨h1,h2,h3,h4,h5,h6,h7,h8⟩
theorem Ll {f:Fm}(h1:isOp f.op=true)(h2:(aI f.op).least<=f.args.length)(h3:f.args.length<=(aI f.op).most)(h4:0<=f.val)(h5:f.val<=(aI f.op).val)(h6:0<=f.bound)(h7:f.bound<=(aI f.op).bound)(h8:rM (aI f.op) f.name=true):bQ f=true:=by
 unfold bQ;simp only[Bool.and_eq_true,decide_eq_true_eq];exact⟨⟨⟨⟨⟨⟨⟨h1,h2⟩,h3⟩,h4⟩,h5⟩,h6⟩,h7⟩,h8⟩
theorem qH {o:Int}(h:isOp o=true):o=1\/o=2\/o=3\/o=4\/o=5\/o=6\/o=7\/o=8\/o=9\/o=10\/o=11\/o=12\/o=13\/o=14\/o=15\/o=16\/o=17\/o=18\/o=19:=by
 unfold isOp at h;simp at h;omega
def FB (o:Int):Bool:=isOp o && !(decide (o=3) || decide (o=4) || decide (o=13) || decide (o=14))
theorem U9 {o:Int}(h:FB o=true):o=1\/o=2\/o=5\/o=6\/o=7\/o=8\/o=9\/o=10\/o=11\/o=12\/o=15\/o=16\/o=17\/o=18\/o=19:=by
 unfold FB isOp at h;simp at h;omega
theorem qdG {o:Int}(h:isOp o=true)(h3:o≠3)(h4:o≠4)(h5:o≠13)(h6:o≠14):FB o=true:=by
 unfold FB;rw[h,decide_eq_false h3,decide_eq_false h4,decide_eq_false h5,decide_eq_false h6];rfl
theorem qd1 {o:Int}(h:FB o=true)(neg:Bool)(n:ByteArray)(v b:Int)(l:List Fm):kf neg (.mk o n v b l) = .mk (cu neg o) n (mQ neg o v) 0 (oM neg o++Hq (qQ neg o) (pG neg o) l):=by
 rw[NT];simp only[Fm.op,Fm.name,Fm.val,Fm.bound,Fm.args];unfold YL
 rcases U9 h with rfl|rfl|rfl|rfl|rfl|rfl|rfl|rfl|rfl|rfl|rfl|rfl|rfl|rfl|rfl <;> rfl
theorem qd2 (neg:Bool)(n:ByteArray)(v b:Int)(g:Fm):kf neg (.mk 4 n v b [g])=kf (!neg) g:=by
 rw[NT];rfl
theorem qgx (n:ByteArray)(v b:Int):kf false (.mk 3 n v b []) = .mk 3 n v 0 []:=by
 rw[NT];rfl
theorem YM (n:ByteArray)(v b:Int):kf true (.mk 3 n v b [])=jZ 4 [WX n v]:=by
 rw[NT];rfl
theorem qd3 {o:Int}(h:o=13\/o=14)(neg:Bool)(n:ByteArray)(v b:Int)(g:Fm):kf neg (.mk o n v b [g])=nV (cu neg o) b.toNat (kf neg g):=by
 rw[NT]
 rcases h with rfl|rfl <;> rfl
theorem Et {f:Fm}(h0:(aI f.op).least=1)(h1:(aI f.op).most=1)(hs:bQ f=true):∃g,f.args = [g]:=by
 obtain⟨_,h2,h3,_⟩:=iM hs;rw[h0]at h2;rw[h1]at h3
 cases hf:f.args with
 | nil=>rw[hf]at h2;simp at h2
 | cons g l =>
  cases l with
  | nil=>exact⟨g,rfl⟩
  | cons g' l=>rw[hf]at h3;simp at h3
theorem qd6 {f:Fm}(h1:(aI f.op).most=0)(hs:bQ f=true):f.args = []:=by
 obtain⟨_,h2,h3,_⟩:=iM hs;rw[h1]at h3;exact List.eq_nil_of_length_eq_zero (by omega)
theorem Oq {f:Fm}(hs:bQ f=true):(f.op=3/\f.args = [])\/(f.op=4/\∃g,f.args = [g])\/((f.op=13\/f.op=14)/\∃g,f.args = [g])\/FB f.op=true:=by
 have h0:=(iM hs).1
 by_cases h3:f.op=3
 ·exact .inl ⟨h3,qd6 (by rw[h3];rfl) hs⟩
 ·by_cases h4:f.op=4
  ·exact .inr (.inl ⟨h4,Et (by rw[h4];rfl) (by rw[h4];rfl) hs⟩)
  ·by_cases h5:f.op=13
   ·exact .inr (.inr (.inl ⟨.inl h5,Et (by rw[h5];rfl) (by rw[h5];rfl) hs⟩))
   ·by_cases h6:f.op=14
    ·exact .inr (.inr (.inl ⟨.inr h6,Et (by rw[h6];rfl) (by rw[h6];rfl) hs⟩))
    ·exact .inr (.inr (.inr (qdG h0 h3 h4 h5 h6)))
def allI (q:Fm×Bool->Bool)(ins:Bool)(f:Fm):Prop:=(dV ins f).all q=true
theorem dK {q:Fm×Bool->Bool}{ins:Bool}{f:Fm}:allI q ins f ↔ q (f,ins)=true/\∀g,g∈f.args->allI q (ins || (aI f.op).past) g:=by
 unfold allI;rw[mM,List.all_cons,Bool.and_eq_true];exact and_congr_right fun _=>⟨fun h g hg=>zD hg h,fun h=>JZ h⟩
theorem qB {q:Fm×Bool->Bool}{f:Fm}:allB q f=true ↔ allI q false f:=Iff.rfl
theorem xk {ins:Bool}{f:Fm}(h1:(aI f.op).loose=true)(h2:bQ f=true)(h3:(aI f.op).future=true->ins=false)(h4:f.op=4->(f.args.getD 0 default).op=3):bU (f,ins)=true:=by
 unfold bU Af;simp only[h1,h2,Bool.true_and];rw[Bool.and_eq_true]
 constructor
 ·cases hf:(aI f.op).future
  ·rfl
  ·rw[h3 hf];rfl
 ·by_cases e:f.op=4
  ·rw[decide_eq_true e,decide_eq_true (h4 e)];rfl
  ·rw[decide_eq_false e];rfl
theorem KD {s:Form}(h:s.named=false):rM s ⟨#[]⟩=true:=by
 unfold rM;rw[h,ByteArray.toList_eq];rfl
theorem Eu {o:Int}{l:List Fm}(h0:isOp o=true)(h1:(aI o).least<=l.length)(h2:l.length<=(aI o).most)(hv:0<=(aI o).val)(hb:0<=(aI o).bound)(hn:(aI o).named=false):bQ (jZ o l)=true :=
 Ll h0 h1 h2 (Int.le_refl _) hv (Int.le_refl _) hb (KD hn)
theorem Bf {ins:Bool}{o:Int}(h:o=1\/o=2):allI bU ins (jZ o []):=by
 rw[dK];refine⟨?_,fun g hg=>by cases hg⟩
 rcases h with rfl|rfl
 ·exact xk rfl (Eu rfl (by decide) (by decide) (by decide) (by decide) rfl) (fun h=>by cases h) (fun e=>by simp[jZ,Fm.op]at e)
 ·exact xk rfl (Eu rfl (by decide) (by decide) (by decide) (by decide) rfl) (fun h=>by cases h) (fun e=>by simp[jZ,Fm.op]at e)
end Go.Proofs.YtdpbgcmfeajigaaGreatDoor
namespace Go.Proofs.YtdpbgcmfeajigaaGreatDoor
open Go.RowKit Go.Shelf
attribute [local go_sem] ak
theorem pX {V:Dom}{w w':World}{base n size:Nat}{e:TypeId}{v:Value}{xs:List Value}(h:w.ownsRow base e size v n xs)(hc:aF V w w')(hv:∀k,v.ownBlock=some k->¬V k):w'.ownsRow base e size v n xs:=by
 refine⟨h.1,?_⟩
 rcases h.2 with h0|⟨g,cap,cur,rfl,hb,hg,h1,h2,h3,h4⟩
 ·exact .inl h0
 ·exact .inr ⟨g,cap,cur,rfl,hb,(hc.block g (lt_of_block hg) (hv g rfl)).trans hg,h1,h2,h3,h4⟩
theorem Ai {w:World}{base n size g c:Nat}{e:TypeId}{xs:List Value}(h:w.ownsRow base e size (.slice (some ⟨g,0,none⟩) n c) n xs){j:Nat}(hj:j<n*size)(u:Value):(w.setCell ⟨g,j,none⟩ u).ownsRow base e size (.slice (some ⟨g,0,none⟩) n c) n (xs.set j u):=by
 refine⟨by rw[List.length_set];exact h.1,?_⟩
 rcases h.2 with⟨h0,_⟩|⟨g',cap,cur,hv,hb,hg,h1,h2,h3,h4⟩
 ·cases h0
 ·injection hv with e1 e2 e3
  injection e1 with e1
  injection e1 with e1
  subst e1 e3;refine .inr ⟨g,c,_,rfl,hb,aB hg u,h1,h2,by simpa using h3,?_⟩;rw[Array.toList_setIfInBounds,<-h4,List.take_set]
theorem mJ {w:World}{base n size g c:Nat}{e:TypeId}{xs:List Value}(h:w.ownsRow base e size (.slice (some ⟨g,0,none⟩) n c) n xs){j:Nat}{u:Value}(hu:xs[j]?=some u):w.cell? ⟨g,j,none⟩=some u/\w.frozen? ⟨g,j,none⟩=false/\g<w.heap.size:=by
 rcases h.2 with⟨h0,_⟩|⟨g',cap,cur,hv,hb,hg,h1,h2,h3,h4⟩
 ·cases h0
 ·injection hv with e1 e2 e3
  injection e1 with e1
  injection e1 with e1
  subst e1 e3;refine⟨aj hg ?_,aA hg,lt_of_block hg⟩;rw[<-h4,List.getElem?_take]at hu
  split at hu
  ·simpa using hu
  ·cases hu
def Nw (base:Nat)(w:World):Dom:=fun k=>base<=k/\Cl w k
theorem Nw.keep {base:Nat}{w w':World}{D:Dom}(hk:Keeps D w w')(hD:∀k,Nw base w k->D k){k:Nat}(h:Nw base w k):Nw base w' k:=⟨h.1,h.2.of_eq (hk.block k (hD k h) h.2.lt)⟩
theorem bM.nw {w w':World}{base:Nat}{l:List Fm}{A:Option Addr}{c:Nat}{V:Dom}(h:bM w (Nw base w) l A c)(hc:aF V w w')(hv:∀k,V k->k<base):bM w' (Nw base w') l A c:=by
 have hk:Keeps (Nw base w) w w':=hc.keeps fun k _ hk hv'=>by have:=hv k hv';have:=hk.1;omega
 exact(h.keep hk).mono fun k hk' _=>hk'.keep hk (fun _ h=>h)
theorem bM.base {w:World}{base base':Nat}{l:List Fm}{A:Option Addr}{c:Nat}(h:bM w (Nw base w) l A c)(hb:base'<=base):bM w (Nw base' w) l A c:=h.mono fun k hk _=>⟨Nat.le_trans hb hk.1,hk.2⟩
structure bK (w:World) (base:Nat) (A:Option Addr) (c:Nat) (gs:List Fm) (sl:List (Option Addr×Nat)):Prop where
 own:w.ownsRow base 24 5 (.slice A gs.length c) gs.length (bI gs sl)
 len:sl.length=gs.length
 arg:∀i,i<gs.length->bM w (fun k=>Nw base w k/\(Value.slice A gs.length c).ownBlock≠some k) (gs.getD i default).args (sl.getD i (none,0)).1 (sl.getD i (none,0)).2
theorem iH {gs:List Fm}{sl:List (Option Addr×Nat)}(h:sl.length=gs.length):(bI gs sl).length=gs.length*5:=by
 unfold bI
 have:∀l:List (Fm×(Option Addr×Nat)),(l.flatMap fun p=>eH p.1 p.2).length=l.length*5:=by
  intro l
  induction l with
  | nil=>rfl
  | cons x l ih =>
   rw[List.flatMap_cons,List.length_append,ih,List.length_cons,Nat.add_mul,Nat.one_mul,Nat.add_comm];rfl
 rw[this,List.length_zip,h,Nat.min_self]
theorem oq {gs ms:List Fm}{sl sm:List (Option Addr×Nat)}(h:sl.length=gs.length):bI (gs++ms) (sl++sm)=bI gs sl++bI ms sm:=by
 unfold bI;rw[List.zip_append h.symm,List.flatMap_append]
section
variable {w w':World}{base c:Nat}{A:Option Addr}{gs:List Fm}{sl:List (Option Addr×Nat)}
theorem bK.nil (w:World)(base:Nat):bK w base none 0 [] []:=⟨⟨rfl,.inl ⟨rfl,rfl⟩⟩,rfl,fun i h=>absurd h (Nat.not_lt_zero _)⟩
theorem bK.ge (h:bK w base A c gs sl){k:Nat}(hk:(Value.slice A gs.length c).ownBlock=some k):base<=k/\k<w.heap.size:=by
 rcases h.own.2 with⟨h0,_⟩|⟨g,cap,cur,hv,hb,hg,_⟩
 ·rw[h0]at hk;cases hk
 ·rw[hv]at hk
  injection hk with hk
  have:g=k:=hk;subst this;exact⟨hb,lt_of_block hg⟩
theorem bK.dX {V:Dom}(h:bK w base A c gs sl)(hc:aF V w w')(hv:∀k,V k->k<base):bK w' base A c gs sl:=by
 refine⟨pX h.own hc fun k hk hv'=>by have:=hv k hv';have:=h.ge hk;omega,h.len,fun i hi=>?_⟩;have hk:Keeps (fun k=>Nw base w k/\(Value.slice A gs.length c).ownBlock≠some k) w w':=hc.keeps fun k _ hk hv'=>by have:=hv k hv';have:=hk.1.1;omega
 exact((h.arg i hi).keep hk).mono fun k hk' _=>⟨⟨hk'.1.1,hk'.1.2.of_eq (hk.block k hk' hk'.1.2.lt)⟩,hk'.2⟩
theorem bK.rd (h:bK w base A c gs sl)(hn:gs.length<=140737488355328):bM w (Nw base w) gs A c:=by
 refine .mk gs A c sl h.len ?_ fun i hi=>(h.arg i hi).mono fun k hk _=>hk.1
 rcases h.own.2 with⟨hv,h0⟩|⟨g,cap,cur,hv,hb,hh,h1,h2,hsz,htk⟩
 ·injection hv with hA _ hc
  have:gs = []:=List.eq_nil_of_length_eq_zero h0;subst this hc;have hl:=h.len;have:sl = []:=List.eq_nil_of_length_eq_zero hl;subst this;exact Rd.nil _ _ _ _ (by omega)
 ·injection hv with hA _ hc
  subst hA hc;refine⟨⟨h.own.1,hn,h1,h2⟩,fun hn=>⟨g,0,rfl,⟨hb,_,_,hh⟩,lt_of_block hh,fun j u hu=>?_⟩⟩;rw[<-htk,List.getElem?_take]at hu
  split at hu
  ·simp[World.cell?,hh];simpa using hu
  ·cases hu
theorem bK.app {A':Option Addr}{c' n:Nat}{ms:List Fm}{sm:List (Option Addr×Nat)}(h:bK w base A c gs sl)(hg:w.grownBy w' (Value.slice A gs.length c).ownBlock)(hn:n=(gs++ms).length)
  (hown:w'.ownsRow base 24 5 (.slice A' n c') n (bI gs sl++bI ms sm)) (hb:(Value.slice A' n c').ownBlock=(Value.slice A gs.length c).ownBlock\/(Value.slice A' n c').ownBlock=some w.heap.size) (hsm:sm.length=ms.length)
  (hms:∀i,i<ms.length->bM w (fun k=>Nw base w k/\(Value.slice A gs.length c).ownBlock≠some k) (ms.getD i default).args (sm.getD i (none,0)).1 (sm.getD i (none,0)).2):bK w' base A' c' (gs++ms) (sl++sm):=by
 subst hn
 have key:∀{l:List Fm} {B:Option Addr} {d:Nat},bM w (fun k=>Nw base w k/\(Value.slice A gs.length c).ownBlock≠some k) l B d->bM w' (fun k=>Nw base w' k/\(Value.slice A' (gs++ms).length c').ownBlock≠some k) l B d:=fun h1=>by
  have hk:Keeps (fun k=>Nw base w k/\(Value.slice A gs.length c).ownBlock≠some k) w w':=⟨hg.size,fun k hk hl=>hg.block k hl (fun e=>hk.2 e.symm)⟩;have h2:=h1.keep hk
  refine(h1.mono (E:=fun k=>(Nw base w k/\(Value.slice A gs.length c).ownBlock≠some k)/\k<w.heap.size) fun k hk hl=>⟨hk,hl⟩).keep (w':=w') ⟨hg.size,fun k hk hl=>hg.block k hl (fun e=>hk.1.2 e.symm)⟩ |>.mono fun k hk' _=>⟨⟨hk'.1.1.1,hk'.1.1.2.of_eq (hg.block k hk'.2 (fun e=>hk'.1.2 e.symm))⟩,fun e=>?_⟩
  rcases hb with hb|hb
  ·rw[hb]at e;exact hk'.1.2 e
  ·rw[hb]at e
   injection e with e
   have:=hk'.2;omega
 refine⟨by rw[oq h.len];exact hown,by rw[List.length_append,List.length_append,h.len,hsm],fun i hi=>?_⟩
 by_cases hl:i<gs.length
 ·have e1:(gs++ms).getD i default=gs.getD i default:=by simp[List.getD,List.getElem?_append_left hl]
  have e2:(sl++sm).getD i (none,0)=sl.getD i (none,0):=by simp[List.getD,List.getElem?_append_left (show i<sl.length by rw[h.len];exact hl)]
  rw[e1,e2];exact key (h.arg i hl)
 ·have hl2:i-gs.length<ms.length:=by rw[List.length_append]at hi;omega
  have e1:(gs++ms).getD i default=ms.getD (i-gs.length) default:=by simp[List.getD,List.getElem?_append_right (show gs.length<=i by omega)]
  have e2:(sl++sm).getD i (none,0)=sm.getD (i-gs.length) (none,0):=by simp[List.getD,List.getElem?_append_right (show sl.length<=i by rw[h.len];omega),h.len]
  rw[e1,e2];exact key (hms _ hl2)
end
def dW:Fm := .mk 0 ⟨#[]⟩ 0 0 []
theorem Dj (g:Fm)(gs:List Fm)(s:Option Addr×Nat)(sl:List (Option Addr×Nat)):bI (g :: gs) (s :: sl)=eH g s++bI gs sl:=rfl
theorem E5:∀(gs:List Fm) (sl:List (Option Addr×Nat)) (i:Nat) (f:Fm) (s:Option Addr×Nat),i<gs.length->sl.length=gs.length ->
  (((((bI gs sl).set (i*5) (.int .i64 f.op)).set (i*5+1) (.string f.name)).set (i*5+2) (.int .i64 f.val)).set (i*5+3) (.int .i64 f.bound)).set (i*5+4) (.slice s.1 f.args.length s.2)=bI (gs.set i f) (sl.set i s)
 | [],_,i,_,_,h,_=>absurd h (Nat.not_lt_zero _)
 | g :: gs,[],_,_,_,_,h=>by cases h
 | g :: gs,t :: sl,0,f,s,_,_=>rfl
 | g :: gs,t :: sl,i+1,f,s,h,hl=>by
  have ih:=E5 gs sl i f s (by simpa using h) (by simpa using hl);rw[List.set_cons_succ,List.set_cons_succ,Dj,Dj,<-ih];have e0:(eH g t).length=5:=rfl;have e:∀r,(i+1)*5+r-5=i*5+r:=fun r=>by omega
  have e':(i+1)*5-5=i*5:=by omega
  rw[List.set_append_right _ _ (by omega),List.set_append_right _ _ (by omega),List.set_append_right _ _ (by omega),List.set_append_right _ _ (by omega),List.set_append_right _ _ (by omega),e0,e,e,e,e,e']
theorem qX {α : Type}{l:List α}{i:Nat}{x d : α}(h:i<l.length):(l.set i x).getD i d=x:=by simp[List.getD,h]
theorem getD_set_ne {α : Type}{l:List α}{i j:Nat}{x d : α}(h:i≠j):(l.set i x).getD j d=l.getD j d:=by simp[List.getD,List.getElem?_set,h]
theorem bK.set {w:World}{base g c:Nat}{gs:List Fm}{sl:List (Option Addr×Nat)}(h:bK w base (some ⟨g,0,none⟩) c gs sl){i:Nat}(hi:i<gs.length)(f:Fm)(A:Option Addr)(d:Nat)
  (hf:bM w (fun k=>Nw base w k/\k≠g) f.args A d) :
  bK (((((w.setCell ⟨g,i*5,none⟩ (.int .i64 f.op)).setCell ⟨g,i*5+1,none⟩ (.string f.name)).setCell ⟨g,i*5+2,none⟩ (.int .i64 f.val)).setCell ⟨g,i*5+3,none⟩ (.int .i64 f.bound)).setCell ⟨g,i*5+4,none⟩ (.slice A f.args.length d)) base (some ⟨g,0,none⟩) c (gs.set i f) (sl.set i (A,d)):=by
 obtain⟨w',hw'⟩:∃w',w'=(((((w.setCell ⟨g,i*5,none⟩ (.int .i64 f.op)).setCell ⟨g,i*5+1,none⟩ (.string f.name)).setCell ⟨g,i*5+2,none⟩ (.int .i64 f.val)).setCell ⟨g,i*5+3,none⟩ (.int .i64 f.bound)).setCell ⟨g,i*5+4,none⟩ (.slice A f.args.length d)):=⟨_,rfl⟩
 have hc:aF (fun k=>k=g) w w':=by
  rw[hw'];exact(((((aF.refl (fun k=>k=g) w).set ⟨g,_,none⟩ _ fun _=>rfl).set ⟨g,_,none⟩ _ fun _=>rfl).set ⟨g,_,none⟩ _ fun _=>rfl).set ⟨g,_,none⟩ _ fun _=>rfl).set ⟨g,_,none⟩ _ fun _=>rfl
 have hown:w'.ownsRow base 24 5 (.slice (some ⟨g,0,none⟩) gs.length c) gs.length (bI (gs.set i f) (sl.set i (A,d))):=by
  have h0:=Ai (Ai (Ai (Ai (Ai h.own (j:=i*5) (by omega) (.int .i64 f.op)) (j:=i*5+1) (by omega) (.string f.name)) (j:=i*5+2) (by omega) (.int .i64 f.val)) (j:=i*5+3) (by omega) (.int .i64 f.bound)) (j:=i*5+4) (by omega) (.slice A f.args.length d);rw[E5 gs sl i f (A,d) hi h.len]at h0;rw[hw'];exact h0
 rw[<-hw'];clear hw'
 have key:∀{l:List Fm} {B:Option Addr} {e:Nat},bM w (fun k=>Nw base w k/\k≠g) l B e->bM w' (fun k=>Nw base w' k/\(Value.slice (some ⟨g,0,none⟩) gs.length c).ownBlock≠some k) l B e:=fun h1=>by
  have hk:Keeps (fun k=>Nw base w k/\k≠g) w w':=hc.keeps fun k _ hk hv=>hk.2 hv;exact(h1.keep hk).mono fun k hk' _=>⟨⟨hk'.1.1,hk'.1.2.of_eq (hk.block k hk' hk'.1.2.lt)⟩,fun e=>by injection e with e;exact hk'.2 e.symm⟩
 refine⟨by rw[List.length_set];exact hown,by rw[List.length_set,List.length_set];exact h.len,fun j hj=>?_⟩;rw[List.length_set]at hj⊢
 by_cases e:i=j
 ·subst e
  rw[qX hi,qX (by rw[h.len];exact hi)];exact key hf
 ·rw[getD_set_ne e,getD_set_ne e]
  exact key ((h.arg j hj).mono fun k hk _=>⟨hk.1,fun e=>hk.2 (by rw[e];rfl)⟩)
def BB (w:World)(bb:Nat)(left:Int)(over:Bool):Prop:=w.heap[bb]?=some (.cells #[.int .i64 left,.bool over] 107 (0,0))
theorem BB.dX {V:Dom}{w w':World}{bb:Nat}{left:Int}{over:Bool}(h:BB w bb left over)(hc:aF V w w')(hv:¬V bb):BB w' bb left over:=hc.box h hv
theorem BB.below {w w':World}{bb:Nat}{left:Int}{over:Bool}(h:BB w bb left over)(hb:Below w.heap.size w w'):BB w' bb left over:=(hb.block _ (lt_of_block h)).trans h
theorem BB.drawn {w w':World}{bb:Nat}{left:Int}{over:Bool}(h:BB w bb left over)(hd:aU w w'):BB w' bb left over:=h.below (hd.below _)
def eu (left:Int)(over:Bool)(d:Int):Bool:=over || (decide (left-1<0) || decide (d<1))
theorem take_any (bb:Nat)(left d:Int)(over:Bool)(w:World)(h:BB w bb left over)(h0 : -1000000<=left)(h1:left<=1000000) :
  Calls Tryz.prog 110 #[.pointer (some ⟨bb,0,none⟩),.int .i64 d] w fun e w'=>e = .returned (.bool (!eu left over d))/\aF (fun k=>k=bb) w w'/\BB w' bb (left-1) (eu left over d):=by
 have c0:=aj h (i:=0) rfl;have f0:=aA h (i:=0);have c1:=aj h (i:=1) rfl;have f1:=aA h (i:=1);have hl:=lt_of_block h;have HB:=hid h;have hw:IntKind.i64.wrap (left-1)=left-1:=IntWalk.i64_in _ (by omega);clear h
 by_cases h2:left-1<0
 ·have d2:decide (left-1<0)=true:=decide_eq_true h2
  have HT:=hid (show eu left over d=true by unfold eu;rw[d2];simp)
  go_enter Tryz.func110,Tryz.ntmps110
  go_wp2_with fail
  go_ret
  refine⟨by rw[HT.out];rfl,((aF.refl (fun k=>k=bb) w).set ⟨bb,0,none⟩ _ fun _=>rfl).set ⟨bb,1,none⟩ _ fun _=>rfl,?_⟩;unfold BB;rw[aB (aB HB.out _),HT.out];rfl
 ·have d2:decide (left-1<0)=false:=decide_eq_false h2
  by_cases h3:d<1
  ·have d3:decide (d<1)=true:=decide_eq_true h3
   have HT:=hid (show eu left over d=true by unfold eu;rw[d3];simp)
   go_enter Tryz.func110,Tryz.ntmps110
   go_wp2_with fail
   go_ret
   refine⟨by rw[HT.out];rfl,((aF.refl (fun k=>k=bb) w).set ⟨bb,0,none⟩ _ fun _=>rfl).set ⟨bb,1,none⟩ _ fun _=>rfl,?_⟩;unfold BB;rw[aB (aB HB.out _),HT.out];rfl
  ·have d3:decide (d<1)=false:=decide_eq_false h3
   have HT:=hid (show eu left over d=over by unfold eu;rw[d2,d3];simp)
   go_enter Tryz.func110,Tryz.ntmps110
   go_wp2_with fail
   go_ret
   refine⟨by rw[HT.out];rfl,(aF.refl (fun k=>k=bb) w).set ⟨bb,0,none⟩ _ fun _=>rfl,?_⟩;unfold BB;rw[aB HB.out,HT.out];rfl
end Go.Proofs.YtdpbgcmfeajigaaGreatDoor
