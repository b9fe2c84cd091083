/-
  Parts of a proof: GA GB GC HA.
-/
import Derived.Test.YtdpbgcmfeajigaaGreatDoorA09
import Derived.Test.YtdpbgcmfeajigaaGreatDoorA07
set_option linter.unusedSimpArgs false
set_option linter.unusedVariables false
set_option maxHeartbeats 8000000
namespace Go.Proofs.YtdpbgcmfeajigaaGreatDoor
structure Tri (x y z:Int):Prop where
 le:x<=0->y<=0->z<=0
 lt:x<=0->y<=0->x<0\/y<0->z<0
 left:x=0->z=y
 right:y=0->z=x
theorem Tri.nz {x y z x' y' z':Int}(h:Tri x y z)(k:x=0->y=0->Tri x' y' z'):Tri (nz x x') (nz y y') (nz z z'):=by
 obtain⟨h1,h2,h3,h4⟩:=h;unfold Proofs.YtdpbgcmfeajigaaGreatDoor.nz
 by_cases hx:x=0
 ·have hz:=h3 hx
  by_cases hy:y=0
  ·obtain⟨k1,k2,k3,k4⟩:=k hx hy
   have hz0:z=0:=by omega
   rw[if_pos hx,if_pos hy,if_pos hz0];exact⟨k1,k2,k3,k4⟩
  ·have hz0:¬z=0:=by omega
   rw[if_pos hx,if_neg hy,if_neg hz0];exact⟨by omega,by omega,by omega,by omega⟩
 ·by_cases hy:y=0
  ·have hz:=h4 hy
   have hz0:¬z=0:=by omega
   rw[if_neg hx,if_pos hy,if_neg hz0];exact⟨by omega,by omega,by omega,by omega⟩
  ·rw[if_neg hx,if_neg hy]
   by_cases hz0:z=0
   ·rw[if_pos hz0]
    exact⟨by omega,by omega,by omega,by omega⟩
   ·rw[if_neg hz0]
    exact⟨by omega,by omega,by omega,by omega⟩
theorem tX (a b c:Int):Tri (kJ a b) (kJ b c) (kJ a c):=by
 unfold kJ
 constructor <;> (split <;> split <;> split) <;> omega
theorem tV (a b:Int):kJ b a = -kJ a b:=by
 unfold kJ
 split <;> split <;> omega
theorem vw {a b a' b':Int}(h:b = -a)(h':a=0->b' = -a'):nz b b' = -nz a a':=by
 unfold nz
 by_cases e:a=0
 ·rw[if_pos e,if_pos (by omega),h' e]
 ·rw[if_neg e,if_neg (by omega),h]
theorem xk {a b:Int}(h:nz a b=0):b=0:=by
 have:=lV h;rw[this,dK]at h;exact h
def qfY (a b:UInt8):Int:=kJ a.toNat b.toNat
theorem jd (a b:UInt8)(x y:List UInt8):Go.Lib.compareBytes (a :: x) (b :: y)=nz (qfY a b) (Go.Lib.compareBytes x y):=by
 rw[Go.Lib.compareBytes];unfold qfY kJ nz
 by_cases h1:a<b
 ·have h2:(a.toNat:Int)<b.toNat:=by have:=UInt8.lt_iff_toNat_lt.1 h1;omega
  simp[h1,h2]
 ·have h2:¬(a.toNat:Int)<b.toNat := λ h=>h1 (UInt8.lt_iff_toNat_lt.2 (by omega))
  by_cases h3:b<a
  ·have h4:(b.toNat:Int)<a.toNat:=by have:=UInt8.lt_iff_toNat_lt.1 h3;omega
   simp[h1,h2,h3,h4]
  ·have h4:¬(b.toNat:Int)<a.toNat := λ h=>h3 (UInt8.lt_iff_toNat_lt.2 (by omega))
   simp[h1,h2,h3,h4]
theorem II:∀a b c:List UInt8,Tri (Go.Lib.compareBytes a b) (Go.Lib.compareBytes b c) (Go.Lib.compareBytes a c)
 | [],[],[]=>⟨by simp[Go.Lib.compareBytes],by simp[Go.Lib.compareBytes],by simp[Go.Lib.compareBytes],by simp[Go.Lib.compareBytes]⟩
 | [],[],_ :: _=>⟨by simp[Go.Lib.compareBytes],by simp[Go.Lib.compareBytes],by simp[Go.Lib.compareBytes],by simp[Go.Lib.compareBytes]⟩
 | [],_ :: _,[]=>⟨by simp[Go.Lib.compareBytes],by simp[Go.Lib.compareBytes],by simp[Go.Lib.compareBytes],by simp[Go.Lib.compareBytes]⟩
 | _ :: _,[],[]=>⟨by simp[Go.Lib.compareBytes],by simp[Go.Lib.compareBytes],by simp[Go.Lib.compareBytes],by simp[Go.Lib.compareBytes]⟩
 | [],b :: y,c :: z=>by
  have h1:Go.Lib.compareBytes [] (b :: y) = -1:=by simp[Go.Lib.compareBytes]
  have h2:Go.Lib.compareBytes [] (c :: z) = -1:=by simp[Go.Lib.compareBytes]
  rw[h1,h2];exact⟨by omega,by omega,by omega,λ _=>rfl⟩
 | a :: x,[],c :: z=>by
  have h1:Go.Lib.compareBytes (a :: x) []=1:=by simp[Go.Lib.compareBytes]
  have h2:Go.Lib.compareBytes [] (c :: z) = -1:=by simp[Go.Lib.compareBytes]
  rw[h1,h2];exact⟨by omega,by omega,by omega,by omega⟩
 | a :: x,b :: y,[]=>by
  have h1:Go.Lib.compareBytes (a :: x) []=1:=by simp[Go.Lib.compareBytes]
  have h2:Go.Lib.compareBytes (b :: y) []=1:=by simp[Go.Lib.compareBytes]
  rw[h1,h2];exact⟨by omega,by omega,λ _=>rfl,by omega⟩
 | a :: x,b :: y,c :: z=>by
  rw[jd,jd,jd];exact(tX _ _ _).nz λ _ _=>II x y z
theorem Fh:∀a b:List UInt8,Go.Lib.compareBytes b a = -Go.Lib.compareBytes a b
 | [],[]=>by simp[Go.Lib.compareBytes]
 | [],_ :: _=>by simp[Go.Lib.compareBytes]
 | _ :: _,[]=>by simp[Go.Lib.compareBytes]
 | a :: x,b :: y=>by
  rw[jd,jd];exact vw (tV _ _) λ _=>Fh x y
theorem Yt (a b c:ByteArray):Tri (rH a b) (rH b c) (rH a c):=by
 rw[<-gW,<-gW,<-gW];exact II _ _ _
theorem Vh (a b:ByteArray):rH b a = -rH a b:=by
 rw[<-gW,<-gW];exact Fh _ _
theorem TY {a b:ByteArray}(h:rH a b=0):a=b:=by
 have h1:=qB.1 h;rw[ByteArray.toList_eq,ByteArray.toList_eq]at h1;have h2:a.data.toList=b.data.toList:=by simpa using h1
 cases a;cases b;simp only at h2;rw[Array.toList_inj.1 h2]
theorem Vj (a:ByteArray):rH a a=0:=qB.2 (by simp)
theorem YX (f g h:Fm):Tri (eH f g) (eH g h) (eH f h) :=
 (tX _ _ _).nz λ _ _=>(Yt _ _ _).nz λ _ _=>(tX _ _ _).nz λ _ _=>(tX _ _ _).nz λ _ _=>tX _ _ _
theorem VE (f g:Fm):eH g f = -eH f g :=
 vw (tV _ _) λ _=>vw (Vh _ _) λ _=>vw (tV _ _) λ _=>vw (tV _ _) λ _=>tV _ _
theorem VG {f g:Fm}(h:eH f g=0):f.op=g.op/\f.name=g.name/\f.val=g.val/\f.bound=g.bound/\f.args.length=g.args.length:=by
 have hl:=oZ h;unfold eH at h;have r1:=xk h;have r2:=xk r1;have r3:=xk r2;exact⟨jq.1 (lV h),TY (lV r1),jq.1 (lV r2),jq.1 (lV r3),hl⟩
mutual
theorem qo:∀f g h:Fm,Tri (f.cmp g) (g.cmp h) (f.cmp h)
 | .mk o n v b l,.mk o' n' v' b' l',.mk o'' n'' v'' b'' l''=>by
  rw[cmp_eq,cmp_eq,cmp_eq];exact(YX _ _ _).nz λ h1 h2=>Nr l l' l'' (oZ h1) (oZ h2)
theorem Nr:∀l m n:List Fm,l.length=m.length->m.length=n.length->Tri (jY l m) (jY m n) (jY l n)
 | [],[],[],_,_=>by simp only[jY];exact tX 0 0 0
 | f :: l,g :: m,h :: n,h1,h2=>by
  simp only[jY];exact(qo f g h).nz λ _ _=>Nr l m n (by simpa using h1) (by simpa using h2)
end
mutual
theorem kR:∀f g:Fm,g.cmp f = -f.cmp g
 | .mk o n v b l,.mk o' n' v' b' l'=>by
  rw[cmp_eq,cmp_eq];exact vw (VE _ _) λ h=>IK l l' (oZ h)
theorem IK:∀l m:List Fm,l.length=m.length->jY m l = -jY l m
 | [],[],_=>by simp[jY]
 | f :: l,g :: m,h=>by
  simp only[jY];exact vw (kR f g) λ _=>IK l m (by simpa using h)
end
mutual
theorem IJ:∀f g:Fm,f.cmp g=0->f=g
 | .mk o n v b l,.mk o' n' v' b' l',h=>by
  rw[cmp_eq]at h;obtain⟨h1,h2,h3,h4,h5⟩:=VG (lV h);exact Fm.ext h1 h2 h3 h4 (Fq l l' h5 (xk h))
theorem Fq:∀l m:List Fm,l.length=m.length->jY l m=0->l=m
 | [],[],_,_=>rfl
 | f :: l,g :: m,h1,h2=>by
  simp only[jY]at h2;rw[IJ f g (lV h2),Fq l m (by simpa using h1) (xk h2)]
end
theorem nC {f g:Fm}:f.cmp g=0 ↔ f=g:=⟨IJ f g,λ h=>by rw[h];exact tY g⟩
mutual
theorem Fb {q:Fm×Bool->Bool}(hq:∀x,q (x,true)=true->q (x,false)=true):∀(f:Fm),(fA true f).all q=true->(fA false f).all q=true
 | .mk o n v b l,h=>by
  rw[su,List.all_cons,Bool.and_eq_true]at h;rw[su,List.all_cons,Bool.and_eq_true];refine⟨hq _ h.1,?_⟩;have h2:=h.2;simp only[Bool.true_or,Bool.false_or,Fm.op,Fm.args]at h2⊢;cases(aJ o).past
  ·exact IB hq l h2
  ·exact h2
theorem IB {q:Fm×Bool->Bool}(hq:∀x,q (x,true)=true->q (x,false)=true):∀(l:List Fm),(kE true l).all q=true->(kE false l).all q=true
 | [],_=>rfl
 | f :: l,h=>by
  simp only[kE,List.all_append,Bool.and_eq_true]at h⊢;exact⟨Fb hq f h.1,IB hq l h.2⟩
end
theorem Ad {q:Fm×Bool->Bool}{ins:Bool}:∀{l:List Fm} {g:Fm},g∈l->(kE ins l).all q=true->(fA ins g).all q=true
 | [],g,h,_=>by cases h
 | f :: l,g,h,ha=>by
  simp only[kE,List.all_append,Bool.and_eq_true]at ha
  rcases List.mem_cons.1 h with e|e
  ·rw[e];exact ha.1
  ·exact Ad e ha.2
theorem Kr {q:Fm×Bool->Bool}{ins:Bool}:∀{l:List Fm},(∀g,g∈l->(fA ins g).all q=true)->(kE ins l).all q=true
 | [],_=>rfl
 | f :: l,h=>by
  simp only[kE,List.all_append,Bool.and_eq_true];exact⟨h f (by simp),Kr λ g hg=>h g (by simp[hg])⟩
theorem MR {q:Fm×Bool->Bool}(hq:∀x,q (x,true)=true->q (x,false)=true){f g:Fm}(hg:g∈f.args)(h:allB q f=true):allB q g=true:=by
 unfold allB at h⊢;rw[su,List.all_cons,Bool.and_eq_true]at h;have:=Ad hg h.2;cases hp:(false || (aJ f.op).past)
 ·rw[hp]at this;exact this
 ·rw[hp]at this;exact Fb hq g this
theorem E8 {q r:Fm×Bool->Bool}(hq:∀x,q x=true->r x=true){f:Fm}(h:allB q f=true):allB r f=true:=by
 unfold allB at h⊢;rw[List.all_eq_true]at h⊢;exact λ x hx=>hq x (h x hx)
theorem QG (x:Fm):bU (x,true)=true->bU (x,false)=true:=by
 unfold bU;simp only[Bool.and_eq_true];rintro⟨⟨⟨h1,h2⟩,h3⟩,h4⟩;exact⟨⟨⟨h1,h2⟩,by simp⟩,h4⟩
theorem KZ {f:Fm}(h:allB iC f=true):allB oh f=true:=E8 (λ x hx=>by
 unfold iC at hx;unfold oh;simp only[Bool.not_eq_true']at hx
 rw[hx];rfl) h
theorem Nc {f:Fm}(h:allB bU f=true):allB Bq f=true:=E8 (λ x hx=>by
 unfold bU at hx;unfold Bq;simp only[Bool.and_eq_true]at hx
 exact hx.1.1.2) h
theorem Kt {f:Fm}(h:allB bU f=true):allB oh f=true:=E8 (λ x hx=>by
 unfold bU at hx;unfold oh;simp only[Bool.and_eq_true]at hx
 exact hx.1.2) h
theorem KH {f:Fm}(h:fU f=true):jP f=true/\allB oh f=true:=by
 unfold fU at h;rw[Bool.and_eq_true]at h;exact⟨by unfold jP;rw[h.1,Nc h.2];rfl,Kt h.2⟩
theorem YH {f g:Fm}(hg:g∈f.args){s d:Int}(h:bK f s d=true):bK g s d=true:=by
 rw[gJ]at h⊢;have h1:=gq hg;have h2:=zq hg;rw[Fm.size_eq,Fm.jr]at h;omega
theorem xU {a b:ByteArray}:(a.toList==b.toList)=true ↔ a=b:=by
 rw[<-qB];exact⟨TY,λ h=>by rw[h];exact Vj _⟩
theorem Fm.ind {P:Fm->Prop}(h:∀f,(∀g,g∈f.args->P g)->P f)(f:Fm):P f :=
 Fm.induct (λ f ih=>h f λ g hg=>by
  obtain⟨i,hi,rfl⟩:=List.getElem_of_mem hg;have:=ih i hi
  rwa [List.getD_eq_getElem?_getD,List.getElem?_eq_getElem hi]at this) f
theorem jo {f:Fm}(h:bW f=true):isOp f.op=true/\(aJ f.op).least<=f.args.length/\f.args.length<=(aJ f.op).most/\0<=f.val/\f.val<=(aJ f.op).val/\0<=f.bound/\f.bound<=(aJ f.op).bound/\sO (aJ f.op) f.name=true:=by
 unfold bW at h;simp only[Bool.and_eq_true,decide_eq_true_eq]at h;obtain⟨⟨⟨⟨⟨⟨⟨h1,h2⟩,h3⟩,h4⟩,h5⟩,h6⟩,h7⟩,h8⟩:=h;exact⟨h1,h2,h3,h4,h5,h6,h7,h8⟩
theorem Lu {f:Fm}(h1:isOp f.op=true)(h2:(aJ f.op).least<=f.args.length)(h3:f.args.length<=(aJ f.op).most)(h4:0<=f.val)(h5:f.val<=(aJ f.op).val)(h6:0<=f.bound)(h7:f.bound<=(aJ f.op).bound)(h8:sO (aJ f.op) f.name=true):bW f=true:=by
 unfold bW;simp only[Bool.and_eq_true,decide_eq_true_eq];exact⟨⟨⟨⟨⟨⟨⟨h1,h2⟩,h3⟩,h4⟩,h5⟩,h6⟩,h7⟩,h8⟩
theorem qU {o:Int}(h:isOp o=true):o=1\/o=2\/o=3\/o=4\/o=5\/o=6\/o=7\/o=8\/o=9\/o=10\/o=11\/o=12\/o=13\/o=14\/o=15\/o=16\/o=17\/o=18\/o=19:=by
 unfold isOp at h;simp at h;omega
def FP (o:Int):Bool:=isOp o && !(decide (o=3) || decide (o=4) || decide (o=13) || decide (o=14))
theorem Vw {o:Int}(h:FP o=true):o=1\/o=2\/o=5\/o=6\/o=7\/o=8\/o=9\/o=10\/o=11\/o=12\/o=15\/o=16\/o=17\/o=18\/o=19:=by
 unfold FP isOp at h;simp at h;omega
theorem qdW {o:Int}(h:isOp o=true)(h3:o≠3)(h4:o≠4)(h5:o≠13)(h6:o≠14):FP o=true:=by
 unfold FP;rw[h,decide_eq_false h3,decide_eq_false h4,decide_eq_false h5,decide_eq_false h6];rfl
theorem qei {o:Int}(h:FP o=true)(neg:Bool)(n:ByteArray)(v b:Int)(l:List Fm):kf neg (.mk o n v b l) = .mk (cO neg o) n (nO neg o v) 0 (o7 neg o++Ht (rG neg o) (qj neg o) l):=by
 rw[NW];simp only[Fm.op,Fm.name,Fm.val,Fm.bound,Fm.args];unfold Zi
 rcases Vw h with rfl|rfl|rfl|rfl|rfl|rfl|rfl|rfl|rfl|rfl|rfl|rfl|rfl|rfl|rfl <;> rfl
theorem qej (neg:Bool)(n:ByteArray)(v b:Int)(g:Fm):kf neg (.mk 4 n v b [g])=kf (!neg) g:=by
 rw[NW];rfl
theorem qgM (n:ByteArray)(v b:Int):kf false (.mk 3 n v b []) = .mk 3 n v 0 []:=by
 rw[NW];rfl
theorem Zj (n:ByteArray)(v b:Int):kf true (.mk 3 n v b [])=kV 4 [Xt n v]:=by
 rw[NW];rfl
theorem qek {o:Int}(h:o=13\/o=14)(neg:Bool)(n:ByteArray)(v b:Int)(g:Fm):kf neg (.mk o n v b [g])=oH (cO neg o) b.toNat (kf neg g):=by
 rw[NW]
 rcases h with rfl|rfl <;> rfl
theorem EG {f:Fm}(h0:(aJ f.op).least=1)(h1:(aJ f.op).most=1)(hs:bW f=true):∃g,f.args = [g]:=by
 obtain⟨_,h2,h3,_⟩:=jo hs;rw[h0]at h2;rw[h1]at h3
 cases hf:f.args with
 | nil=>rw[hf]at h2;simp at h2
 | cons g l =>
  cases l with
  | nil=>exact⟨g,rfl⟩
  | cons g' l=>rw[hf]at h3;simp at h3
theorem qem {f:Fm}(h1:(aJ f.op).most=0)(hs:bW f=true):f.args = []:=by
 obtain⟨_,h2,h3,_⟩:=jo hs;rw[h1]at h3;exact List.eq_nil_of_length_eq_zero (by omega)
theorem Ou {f:Fm}(hs:bW f=true):(f.op=3/\f.args = [])\/(f.op=4/\∃g,f.args = [g])\/((f.op=13\/f.op=14)/\∃g,f.args = [g])\/FP f.op=true:=by
 have h0:=(jo hs).1
 by_cases h3:f.op=3
 ·exact .inl ⟨h3,qem (by rw[h3];rfl) hs⟩
 ·by_cases h4:f.op=4
  ·exact .inr (.inl ⟨h4,EG (by rw[h4];rfl) (by rw[h4];rfl) hs⟩)
  ·by_cases h5:f.op=13
   ·exact .inr (.inr (.inl ⟨.inl h5,EG (by rw[h5];rfl) (by rw[h5];rfl) hs⟩))
   ·by_cases h6:f.op=14
    ·exact .inr (.inr (.inl ⟨.inr h6,EG (by rw[h6];rfl) (by rw[h6];rfl) hs⟩))
    ·exact .inr (.inr (.inr (qdW h0 h3 h4 h5 h6)))
def allI (q:Fm×Bool->Bool)(ins:Bool)(f:Fm):Prop:=(fA ins f).all q=true
theorem dL {q:Fm×Bool->Bool}{ins:Bool}{f:Fm}:allI q ins f ↔ q (f,ins)=true/\∀g,g∈f.args->allI q (ins || (aJ f.op).past) g:=by
 unfold allI;rw[su,List.all_cons,Bool.and_eq_true];exact and_congr_right λ _=>⟨λ h g hg=>Ad hg h,λ h=>Kr h⟩
theorem qJ {q:Fm×Bool->Bool}{f:Fm}:allB q f=true ↔ allI q false f:=Iff.rfl
theorem xP {ins:Bool}{f:Fm}(h1:(aJ f.op).loose=true)(h2:bW f=true)(h3:(aJ f.op).future=true->ins=false)(h4:f.op=4->(f.args.getD 0 default).op=3):bU (f,ins)=true:=by
 unfold bU Ba;simp only[h1,h2,Bool.true_and];rw[Bool.and_eq_true]
 constructor
 ·cases hf:(aJ f.op).future
  ·rfl
  ·rw[h3 hf];rfl
 ·by_cases e:f.op=4
  ·rw[decide_eq_true e,decide_eq_true (h4 e)];rfl
  ·rw[decide_eq_false e];rfl
theorem KL {s:Form}(h:s.named=false):sO s ⟨#[]⟩=true:=by
 unfold sO;rw[h,ByteArray.toList_eq];rfl
theorem EI {o:Int}{l:List Fm}(h0:isOp o=true)(h1:(aJ o).least<=l.length)(h2:l.length<=(aJ o).most)(hv:0<=(aJ o).val)(hb:0<=(aJ o).bound)(hn:(aJ o).named=false):bW (kV o l)=true :=
 Lu h0 h1 h2 (Int.le_refl _) hv (Int.le_refl _) hb (KL hn)
theorem BP {ins:Bool}{o:Int}(h:o=1\/o=2):allI bU ins (kV o []):=by
 rw[dL];refine⟨?_,λ g hg=>by cases hg⟩
 rcases h with rfl|rfl
 ·exact xP rfl (EI rfl (by decide) (by decide) (by decide) (by decide) rfl) (λ h=>by cases h) (λ e=>by simp[kV,Fm.op]at e)
 ·exact xP rfl (EI rfl (by decide) (by decide) (by decide) (by decide) rfl) (λ h=>by cases h) (λ e=>by simp[kV,Fm.op]at e)
end Go.Proofs.YtdpbgcmfeajigaaGreatDoor
namespace Go.Proofs.YtdpbgcmfeajigaaGreatDoor
open Go.RowKit Go.Shelf
attribute [local go_sem] ak
theorem EH {V:Dom}{w w':World}{base n size:Nat}{e:TypeId}{v:Value}{xs:List Value}(h:w.ownsRow base e size v n xs)(hc:aH V w w')(hv:∀k,v.ownBlock=some k->¬V k):w'.ownsRow base e size v n xs:=by
 refine⟨h.1,?_⟩
 rcases h.2 with h0|⟨g,cap,cur,rfl,hb,hg,h1,h2,h3,h4⟩
 ·exact .inl h0
 ·exact .inr ⟨g,cap,cur,rfl,hb,(hc.block g (lt_of_block hg) (hv g rfl)).trans hg,h1,h2,h3,h4⟩
theorem Bf {w:World}{base n size g c:Nat}{e:TypeId}{xs:List Value}(h:w.ownsRow base e size (.slice (some ⟨g,0,none⟩) n c) n xs){j:Nat}(hj:j<n*size)(u:Value):(w.setCell ⟨g,j,none⟩ u).ownsRow base e size (.slice (some ⟨g,0,none⟩) n c) n (xs.set j u):=by
 refine⟨by rw[List.length_set];exact h.1,?_⟩
 rcases h.2 with⟨h0,_⟩|⟨g',cap,cur,hv,hb,hg,h1,h2,h3,h4⟩
 ·cases h0
 ·injection hv with e1 e2 e3
  injection e1 with e1
  injection e1 with e1
  subst e1 e3;refine .inr ⟨g,c,_,rfl,hb,aB hg u,h1,h2,by simpa using h3,?_⟩;rw[Array.toList_setIfInBounds,<-h4,List.take_set]
theorem nK {w:World}{base n size g c:Nat}{e:TypeId}{xs:List Value}(h:w.ownsRow base e size (.slice (some ⟨g,0,none⟩) n c) n xs){j:Nat}{u:Value}(hu:xs[j]?=some u):w.cell? ⟨g,j,none⟩=some u/\w.frozen? ⟨g,j,none⟩=false/\g<w.heap.size:=by
 rcases h.2 with⟨h0,_⟩|⟨g',cap,cur,hv,hb,hg,h1,h2,h3,h4⟩
 ·cases h0
 ·injection hv with e1 e2 e3
  injection e1 with e1
  injection e1 with e1
  subst e1 e3;refine⟨aj hg ?_,aA hg,lt_of_block hg⟩;rw[<-h4,List.getElem?_take]at hu
  split at hu
  ·simpa using hu
  ·cases hu
def Nw (base:Nat)(w:World):Dom := λ k=>base<=k/\Cl w k
theorem Nw.keep {base:Nat}{w w':World}{D:Dom}(hk:Keeps D w w')(hD:∀k,Nw base w k->D k){k:Nat}(h:Nw base w k):Nw base w' k:=⟨h.1,h.2.of_eq (hk.block k (hD k h) h.2.lt)⟩
theorem bZ.nw {w w':World}{base:Nat}{l:List Fm}{A:Option Addr}{c:Nat}{V:Dom}(h:bZ w (Nw base w) l A c)(hc:aH V w w')(hv:∀k,V k->k<base):bZ w' (Nw base w') l A c:=by
 have hk:Keeps (Nw base w) w w':=hc.keeps λ k _ hk hv'=>by have:=hv k hv';have:=hk.1;omega
 exact(h.keep hk).mono λ k hk' _=>hk'.keep hk (λ _ h=>h)
theorem bZ.base {w:World}{base base':Nat}{l:List Fm}{A:Option Addr}{c:Nat}(h:bZ w (Nw base w) l A c)(hb:base'<=base):bZ w (Nw base' w) l A c:=h.mono λ k hk _=>⟨Nat.le_trans hb hk.1,hk.2⟩
structure bT (w:World) (base:Nat) (A:Option Addr) (c:Nat) (gs:List Fm) (sl:List (Option Addr×Nat)):Prop where
 own:w.ownsRow base 24 5 (.slice A gs.length c) gs.length (bQ gs sl)
 len:sl.length=gs.length
 arg:∀i,i<gs.length->bZ w (λ k=>Nw base w k/\(Value.slice A gs.length c).ownBlock≠some k) (gs.getD i default).args (sl.getD i (none,0)).1 (sl.getD i (none,0)).2
theorem iM {gs:List Fm}{sl:List (Option Addr×Nat)}(h:sl.length=gs.length):(bQ gs sl).length=gs.length*5:=by
 unfold bQ
 have:∀l:List (Fm×(Option Addr×Nat)),(l.flatMap λ p=>fH p.1 p.2).length=l.length*5:=by
  intro l
  induction l with
  | nil=>rfl
  | cons x l ih =>
   rw[List.flatMap_cons,List.length_append,ih,List.length_cons,Nat.add_mul,Nat.one_mul,Nat.add_comm];rfl
 rw[this,List.length_zip,h,Nat.min_self]
theorem oJ {gs ms:List Fm}{sl sm:List (Option Addr×Nat)}(h:sl.length=gs.length):bQ (gs++ms) (sl++sm)=bQ gs sl++bQ ms sm:=by
 unfold bQ;rw[List.zip_append h.symm,List.flatMap_append]
section
variable {w w':World}{base c:Nat}{A:Option Addr}{gs:List Fm}{sl:List (Option Addr×Nat)}
theorem bT.nil (w:World)(base:Nat):bT w base none 0 [] []:=⟨⟨rfl,.inl ⟨rfl,rfl⟩⟩,rfl,λ i h=>absurd h (Nat.not_lt_zero _)⟩
theorem bT.ge (h:bT w base A c gs sl){k:Nat}(hk:(Value.slice A gs.length c).ownBlock=some k):base<=k/\k<w.heap.size:=by
 rcases h.own.2 with⟨h0,_⟩|⟨g,cap,cur,hv,hb,hg,_⟩
 ·rw[h0]at hk;cases hk
 ·rw[hv]at hk
  injection hk with hk
  have:g=k:=hk;subst this;exact⟨hb,lt_of_block hg⟩
theorem bT.eu {V:Dom}(h:bT w base A c gs sl)(hc:aH V w w')(hv:∀k,V k->k<base):bT w' base A c gs sl:=by
 refine⟨EH h.own hc λ k hk hv'=>by have:=hv k hv';have:=h.ge hk;omega,h.len,λ i hi=>?_⟩;have hk:Keeps (λ k=>Nw base w k/\(Value.slice A gs.length c).ownBlock≠some k) w w':=hc.keeps λ k _ hk hv'=>by have:=hv k hv';have:=hk.1.1;omega
 exact((h.arg i hi).keep hk).mono λ k hk' _=>⟨⟨hk'.1.1,hk'.1.2.of_eq (hk.block k hk' hk'.1.2.lt)⟩,hk'.2⟩
theorem bT.rd (h:bT w base A c gs sl)(hn:gs.length<=140737488355328):bZ w (Nw base w) gs A c:=by
 refine .mk gs A c sl h.len ?_ λ i hi=>(h.arg i hi).mono λ k hk _=>hk.1
 rcases h.own.2 with⟨hv,h0⟩|⟨g,cap,cur,hv,hb,hh,h1,h2,hsz,htk⟩
 ·injection hv with hA _ hc
  have:gs = []:=List.eq_nil_of_length_eq_zero h0;subst this hc;have hl:=h.len;have:sl = []:=List.eq_nil_of_length_eq_zero hl;subst this;exact Rd.nil _ _ _ _ (by omega)
 ·injection hv with hA _ hc
  subst hA hc;refine⟨⟨h.own.1,hn,h1,h2⟩,λ hn=>⟨g,0,rfl,⟨hb,_,_,hh⟩,lt_of_block hh,λ j u hu=>?_⟩⟩;rw[<-htk,List.getElem?_take]at hu
  split at hu
  ·simp[World.cell?,hh];simpa using hu
  ·cases hu
theorem bT.app {A':Option Addr}{c' n:Nat}{ms:List Fm}{sm:List (Option Addr×Nat)}(h:bT w base A c gs sl)(hg:w.grownBy w' (Value.slice A gs.length c).ownBlock)(hn:n=(gs++ms).length)
  (hown:w'.ownsRow base 24 5 (.slice A' n c') n (bQ gs sl++bQ ms sm)) (hb:(Value.slice A' n c').ownBlock=(Value.slice A gs.length c).ownBlock\/(Value.slice A' n c').ownBlock=some w.heap.size) (hsm:sm.length=ms.length)
  (hms:∀i,i<ms.length->bZ w (λ k=>Nw base w k/\(Value.slice A gs.length c).ownBlock≠some k) (ms.getD i default).args (sm.getD i (none,0)).1 (sm.getD i (none,0)).2):bT w' base A' c' (gs++ms) (sl++sm):=by
 subst hn
 have key:∀{l:List Fm} {B:Option Addr} {d:Nat},bZ w (λ k=>Nw base w k/\(Value.slice A gs.length c).ownBlock≠some k) l B d->bZ w' (λ k=>Nw base w' k/\(Value.slice A' (gs++ms).length c').ownBlock≠some k) l B d := λ h1=>by
  have hk:Keeps (λ k=>Nw base w k/\(Value.slice A gs.length c).ownBlock≠some k) w w':=⟨hg.size,λ k hk hl=>hg.block k hl (λ e=>hk.2 e.symm)⟩;have h2:=h1.keep hk
  refine(h1.mono (E := λ k=>(Nw base w k/\(Value.slice A gs.length c).ownBlock≠some k)/\k<w.heap.size) λ k hk hl=>⟨hk,hl⟩).keep (w':=w') ⟨hg.size,λ k hk hl=>hg.block k hl (λ e=>hk.1.2 e.symm)⟩ |>.mono λ k hk' _=>⟨⟨hk'.1.1.1,hk'.1.1.2.of_eq (hg.block k hk'.2 (λ e=>hk'.1.2 e.symm))⟩,λ e=>?_⟩
  rcases hb with hb|hb
  ·rw[hb]at e;exact hk'.1.2 e
  ·rw[hb]at e
   injection e with e
   have:=hk'.2;omega
 refine⟨by rw[oJ h.len];exact hown,by rw[List.length_append,List.length_append,h.len,hsm],λ i hi=>?_⟩
 by_cases hl:i<gs.length
 ·have e1:(gs++ms).getD i default=gs.getD i default:=by simp[List.getD,List.getElem?_append_left hl]
  have e2:(sl++sm).getD i (none,0)=sl.getD i (none,0):=by simp[List.getD,List.getElem?_append_left (show i<sl.length by rw[h.len];exact hl)]
  rw[e1,e2];exact key (h.arg i hl)
 ·have hl2:i-gs.length<ms.length:=by rw[List.length_append]at hi;omega
  have e1:(gs++ms).getD i default=ms.getD (i-gs.length) default:=by simp[List.getD,List.getElem?_append_right (show gs.length<=i by omega)]
  have e2:(sl++sm).getD i (none,0)=sm.getD (i-gs.length) (none,0):=by simp[List.getD,List.getElem?_append_right (show sl.length<=i by rw[h.len];omega),h.len]
  rw[e1,e2];exact key (hms _ hl2)
end
def dV:Fm := .mk 0 ⟨#[]⟩ 0 0 []
theorem Dz (g:Fm)(gs:List Fm)(s:Option Addr×Nat)(sl:List (Option Addr×Nat)):bQ (g :: gs) (s :: sl)=fH g s++bQ gs sl:=rfl
theorem Fp:∀(gs:List Fm) (sl:List (Option Addr×Nat)) (i:Nat) (f:Fm) (s:Option Addr×Nat),i<gs.length->sl.length=gs.length ->
  (((((bQ gs sl).set (i*5) (.int .i64 f.op)).set (i*5+1) (.string f.name)).set (i*5+2) (.int .i64 f.val)).set (i*5+3) (.int .i64 f.bound)).set (i*5+4) (.slice s.1 f.args.length s.2)=bQ (gs.set i f) (sl.set i s)
 | [],_,i,_,_,h,_=>absurd h (Nat.not_lt_zero _)
 | g :: gs,[],_,_,_,_,h=>by cases h
 | g :: gs,t :: sl,0,f,s,_,_=>rfl
 | g :: gs,t :: sl,i+1,f,s,h,hl=>by
  have ih:=Fp gs sl i f s (by simpa using h) (by simpa using hl);rw[List.set_cons_succ,List.set_cons_succ,Dz,Dz,<-ih];have e0:(fH g t).length=5:=rfl;have e:∀r,(i+1)*5+r-5=i*5+r := λ r=>by omega
  have e':(i+1)*5-5=i*5:=by omega
  rw[List.set_append_right _ _ (by omega),List.set_append_right _ _ (by omega),List.set_append_right _ _ (by omega),List.set_append_right _ _ (by omega),List.set_append_right _ _ (by omega),e0,e,e,e,e,e']
theorem rP {α : Type}{l:List α}{i:Nat}{x d : α}(h:i<l.length):(l.set i x).getD i d=x:=by simp[List.getD,h]
theorem getD_set_ne {α : Type}{l:List α}{i j:Nat}{x d : α}(h:i≠j):(l.set i x).getD j d=l.getD j d:=by simp[List.getD,List.getElem?_set,h]
theorem bT.set {w:World}{base g c:Nat}{gs:List Fm}{sl:List (Option Addr×Nat)}(h:bT w base (some ⟨g,0,none⟩) c gs sl){i:Nat}(hi:i<gs.length)(f:Fm)(A:Option Addr)(d:Nat)
  (hf:bZ w (λ k=>Nw base w k/\k≠g) f.args A d) :
  bT (((((w.setCell ⟨g,i*5,none⟩ (.int .i64 f.op)).setCell ⟨g,i*5+1,none⟩ (.string f.name)).setCell ⟨g,i*5+2,none⟩ (.int .i64 f.val)).setCell ⟨g,i*5+3,none⟩ (.int .i64 f.bound)).setCell ⟨g,i*5+4,none⟩ (.slice A f.args.length d)) base (some ⟨g,0,none⟩) c (gs.set i f) (sl.set i (A,d)):=by
 obtain⟨w',hw'⟩:∃w',w'=(((((w.setCell ⟨g,i*5,none⟩ (.int .i64 f.op)).setCell ⟨g,i*5+1,none⟩ (.string f.name)).setCell ⟨g,i*5+2,none⟩ (.int .i64 f.val)).setCell ⟨g,i*5+3,none⟩ (.int .i64 f.bound)).setCell ⟨g,i*5+4,none⟩ (.slice A f.args.length d)):=⟨_,rfl⟩
 have hc:aH (λ k=>k=g) w w':=by
  rw[hw'];exact(((((aH.refl (λ k=>k=g) w).set ⟨g,_,none⟩ _ λ _=>rfl).set ⟨g,_,none⟩ _ λ _=>rfl).set ⟨g,_,none⟩ _ λ _=>rfl).set ⟨g,_,none⟩ _ λ _=>rfl).set ⟨g,_,none⟩ _ λ _=>rfl
 have hown:w'.ownsRow base 24 5 (.slice (some ⟨g,0,none⟩) gs.length c) gs.length (bQ (gs.set i f) (sl.set i (A,d))):=by
  have h0:=Bf (Bf (Bf (Bf (Bf h.own (j:=i*5) (by omega) (.int .i64 f.op)) (j:=i*5+1) (by omega) (.string f.name)) (j:=i*5+2) (by omega) (.int .i64 f.val)) (j:=i*5+3) (by omega) (.int .i64 f.bound)) (j:=i*5+4) (by omega) (.slice A f.args.length d);rw[Fp gs sl i f (A,d) hi h.len]at h0;rw[hw'];exact h0
 rw[<-hw'];clear hw'
 have key:∀{l:List Fm} {B:Option Addr} {e:Nat},bZ w (λ k=>Nw base w k/\k≠g) l B e->bZ w' (λ k=>Nw base w' k/\(Value.slice (some ⟨g,0,none⟩) gs.length c).ownBlock≠some k) l B e := λ h1=>by
  have hk:Keeps (λ k=>Nw base w k/\k≠g) w w':=hc.keeps λ k _ hk hv=>hk.2 hv;exact(h1.keep hk).mono λ k hk' _=>⟨⟨hk'.1.1,hk'.1.2.of_eq (hk.block k hk' hk'.1.2.lt)⟩,λ e=>by injection e with e;exact hk'.2 e.symm⟩
 refine⟨by rw[List.length_set];exact hown,by rw[List.length_set,List.length_set];exact h.len,λ j hj=>?_⟩;rw[List.length_set]at hj⊢
 by_cases e:i=j
 ·subst e
  rw[rP hi,rP (by rw[h.len];exact hi)];exact key hf
 ·rw[getD_set_ne e,getD_set_ne e]
  exact key ((h.arg j hj).mono λ k hk _=>⟨hk.1,λ e=>hk.2 (by rw[e];rfl)⟩)
def BB (w:World)(bb:Nat)(left:Int)(over:Bool):Prop:=w.heap[bb]?=some (.cells #[.int .i64 left,.bool over] 107 (0,0))
theorem BB.eu {V:Dom}{w w':World}{bb:Nat}{left:Int}{over:Bool}(h:BB w bb left over)(hc:aH V w w')(hv:¬V bb):BB w' bb left over:=hc.box h hv
theorem BB.below {w w':World}{bb:Nat}{left:Int}{over:Bool}(h:BB w bb left over)(hb:Below w.heap.size w w'):BB w' bb left over:=(hb.block _ (lt_of_block h)).trans h
def eP (left:Int)(over:Bool)(d:Int):Bool:=over || (decide (left-1<0) || decide (d<1))
theorem take_any (bb:Nat)(left d:Int)(over:Bool)(w:World)(h:BB w bb left over)(h0 : -1000000<=left)(h1:left<=1000000) :
  Calls Tryz.prog 110 #[.pointer (some ⟨bb,0,none⟩),.int .i64 d] w λ e w'=>e = .returned (.bool (!eP left over d))/\aH (λ k=>k=bb) w w'/\BB w' bb (left-1) (eP left over d):=by
 have c0:=aj h (i:=0) rfl;have f0:=aA h (i:=0);have c1:=aj h (i:=1) rfl;have f1:=aA h (i:=1);have hl:=lt_of_block h;have HB:=hid h;have hw:IntKind.i64.wrap (left-1)=left-1:=IntWalk.i64_in _ (by omega);clear h
 by_cases h2:left-1<0
 ·have d2:decide (left-1<0)=true:=decide_eq_true h2
  have HT:=hid (show eP left over d=true by unfold eP;rw[d2];simp)
  go_enter Tryz.func110,Tryz.ntmps110
  go_wp2_with fail
  go_ret
  refine⟨by rw[HT.out];rfl,((aH.refl (λ k=>k=bb) w).set ⟨bb,0,none⟩ _ λ _=>rfl).set ⟨bb,1,none⟩ _ λ _=>rfl,?_⟩;unfold BB;rw[aB (aB HB.out _),HT.out];rfl
 ·have d2:decide (left-1<0)=false:=decide_eq_false h2
  by_cases h3:d<1
  ·have d3:decide (d<1)=true:=decide_eq_true h3
   have HT:=hid (show eP left over d=true by unfold eP;rw[d3];simp)
   go_enter Tryz.func110,Tryz.ntmps110
   go_wp2_with fail
   go_ret
   refine⟨by rw[HT.out];rfl,((aH.refl (λ k=>k=bb) w).set ⟨bb,0,none⟩ _ λ _=>rfl).set ⟨bb,1,none⟩ _ λ _=>rfl,?_⟩;unfold BB;rw[aB (aB HB.out _),HT.out];rfl
  ·have d3:decide (d<1)=false:=decide_eq_false h3
   have HT:=hid (show eP left over d=over by unfold eP;rw[d2,d3];simp)
   go_enter Tryz.func110,Tryz.ntmps110
   go_wp2_with fail
   go_ret
   refine⟨by rw[HT.out];rfl,(aH.refl (λ k=>k=bb) w).set ⟨bb,0,none⟩ _ λ _=>rfl,?_⟩;unfold BB;rw[aB HB.out,HT.out];rfl
end Go.Proofs.YtdpbgcmfeajigaaGreatDoor
