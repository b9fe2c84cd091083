/-
  Parts of a proof: GA GB GC HA.
-/
import Derived.Test.YtdpbgcmfeajigaaGreatDoorZ09
import Derived.Test.YtdpbgcmfeajigaaGreatDoorZ07
set_option linter.unusedSimpArgs false
set_option linter.unusedVariables false
set_option maxHeartbeats 8000000
namespace Go.Proofs.YtdpbgcmfeajigaaGreatDoor
structure Tri (x y z:Int):Prop where
 le:x≤0→y≤0→z≤0
 lt:x≤0→y≤0→x < 0∨y < 0→z < 0
 left:x=0→z=y
 right:y=0→z=x
theorem Tri.nz {x y z x' y' z':Int} (h:Tri x y z) (k:x=0→y=0→Tri x' y' z'):Tri (nz x x') (nz y y') (nz z z'):=by
 obtain ⟨h1,h2,h3,h4⟩:=h
 unfold Proofs.YtdpbgcmfeajigaaGreatDoor.nz
 by_cases hx:x=0
 ·have hz:=h3 hx
  by_cases hy:y=0
  ·obtain ⟨k1,k2,k3,k4⟩:=k hx hy
   have hz0:z=0:=by omega
   rw [if_pos hx,if_pos hy,if_pos hz0]
   exact ⟨k1,k2,k3,k4⟩
  ·have hz0 : ¬ z=0:=by omega
   rw [if_pos hx,if_neg hy,if_neg hz0]
   exact ⟨by omega,by omega,by omega,by omega⟩
 ·by_cases hy:y=0
  ·have hz:=h4 hy
   have hz0 : ¬ z=0:=by omega
   rw [if_neg hx,if_pos hy,if_neg hz0]
   exact ⟨by omega,by omega,by omega,by omega⟩
  ·rw [if_neg hx,if_neg hy]
   by_cases hz0:z=0
   ·rw [if_pos hz0]
    exact ⟨by omega,by omega,by omega,by omega⟩
   ·rw [if_neg hz0]
    exact ⟨by omega,by omega,by omega,by omega⟩
theorem qhk (a b c:Int):Tri (qgj a b) (qgj b c) (qgj a c):=by
 unfold qgj
 constructor <;> (split <;> split <;> split) <;> omega
theorem qg1 (a b:Int):qgj b a = -qgj a b:=by
 unfold qgj
 split <;> split <;> omega
theorem qh2 {a b a' b':Int} (h:b = -a) (h':a=0→b' = -a'):nz b b' = -nz a a':=by
 unfold nz
 by_cases e:a=0
 ·rw [if_pos e,if_pos (by omega),h' e]
 ·rw [if_neg e,if_neg (by omega),h]
theorem qid {a b:Int} (h:nz a b=0):b=0:=by
 have:=qcy h
 rw [this,qa7] at h
 exact h
def cmpU (a b:UInt8):Int:=qgj a.toNat b.toNat
theorem qcg (a b:UInt8) (x y:List UInt8):Go.Lib.compareBytes (a :: x) (b :: y)=nz (cmpU a b) (Go.Lib.compareBytes x y):=by
 rw [Go.Lib.compareBytes]
 unfold cmpU qgj nz
 by_cases h1:a < b
 ·have h2:(a.toNat:Int) < b.toNat:=by have:=UInt8.lt_iff_toNat_lt.1 h1;omega
  simp [h1,h2]
 ·have h2 : ¬ (a.toNat:Int) < b.toNat:=fun h=>h1 (UInt8.lt_iff_toNat_lt.2 (by omega))
  by_cases h3:b < a
  ·have h4:(b.toNat:Int) < a.toNat:=by have:=UInt8.lt_iff_toNat_lt.1 h3;omega
   simp [h1,h2,h3,h4]
  ·have h4 : ¬ (b.toNat:Int) < a.toNat:=fun h=>h3 (UInt8.lt_iff_toNat_lt.2 (by omega))
   simp [h1,h2,h3,h4]
theorem bytes_tri : ∀ a b c:List UInt8,Tri (Go.Lib.compareBytes a b) (Go.Lib.compareBytes b c) (Go.Lib.compareBytes a c)
 | [],[],[]=>⟨by simp [Go.Lib.compareBytes],by simp [Go.Lib.compareBytes],by simp [Go.Lib.compareBytes],by simp [Go.Lib.compareBytes]⟩
 | [],[],_ :: _=>⟨by simp [Go.Lib.compareBytes],by simp [Go.Lib.compareBytes],by simp [Go.Lib.compareBytes],by simp [Go.Lib.compareBytes]⟩
 | [],_ :: _,[]=>⟨by simp [Go.Lib.compareBytes],by simp [Go.Lib.compareBytes],by simp [Go.Lib.compareBytes],by simp [Go.Lib.compareBytes]⟩
 | _ :: _,[],[]=>⟨by simp [Go.Lib.compareBytes],by simp [Go.Lib.compareBytes],by simp [Go.Lib.compareBytes],by simp [Go.Lib.compareBytes]⟩
 | [],b :: y,c :: z=>by
  have h1:Go.Lib.compareBytes [] (b :: y) = -1:=by simp [Go.Lib.compareBytes]
  have h2:Go.Lib.compareBytes [] (c :: z) = -1:=by simp [Go.Lib.compareBytes]
  rw [h1,h2]
  exact ⟨by omega,by omega,by omega,fun _=>rfl⟩
 | a :: x,[],c :: z=>by
  have h1:Go.Lib.compareBytes (a :: x) []=1:=by simp [Go.Lib.compareBytes]
  have h2:Go.Lib.compareBytes [] (c :: z) = -1:=by simp [Go.Lib.compareBytes]
  rw [h1,h2]
  exact ⟨by omega,by omega,by omega,by omega⟩
 | a :: x,b :: y,[]=>by
  have h1:Go.Lib.compareBytes (a :: x) []=1:=by simp [Go.Lib.compareBytes]
  have h2:Go.Lib.compareBytes (b :: y) []=1:=by simp [Go.Lib.compareBytes]
  rw [h1,h2]
  exact ⟨by omega,by omega,fun _=>rfl,by omega⟩
 | a :: x,b :: y,c :: z=>by
  rw [qcg,qcg,qcg]
  exact (qhk _ _ _).nz fun _ _=>bytes_tri x y z
theorem bytes_anti : ∀ a b:List UInt8,Go.Lib.compareBytes b a = -Go.Lib.compareBytes a b
 | [],[]=>by simp [Go.Lib.compareBytes]
 | [],_ :: _=>by simp [Go.Lib.compareBytes]
 | _ :: _,[]=>by simp [Go.Lib.compareBytes]
 | a :: x,b :: y=>by
  rw [qcg,qcg]
  exact qh2 (qg1 _ _) fun _=>bytes_anti x y
theorem cmpS_tri (a b c:ByteArray):Tri (qkw a b) (qkw b c) (qkw a c):=by
 rw [←qby,←qby,←qby];exact bytes_tri _ _ _
theorem cmpS_anti (a b:ByteArray):qkw b a = -qkw a b:=by
 rw [←qby,←qby];exact bytes_anti _ _
theorem cmpS_eq {a b:ByteArray} (h:qkw a b=0):a=b:=by
 have h1:=qfr.1 h
 rw [ByteArray.toList_eq,ByteArray.toList_eq] at h1
 have h2:a.data.toList=b.data.toList:=by simpa using h1
 cases a;cases b
 simp only at h2
 rw [Array.toList_inj.1 h2]
theorem cmpS_self (a:ByteArray):qkw a a=0:=qfr.2 (by simp)
theorem head_tri (f g h:Fm):Tri (qba f g) (qba g h) (qba f h) :=
 (qhk _ _ _).nz fun _ _=>(cmpS_tri _ _ _).nz fun _ _=>(qhk _ _ _).nz fun _ _=>(qhk _ _ _).nz fun _ _=>qhk _ _ _
theorem head_anti (f g:Fm):qba g f = -qba f g :=
 qh2 (qg1 _ _) fun _=>qh2 (cmpS_anti _ _) fun _=>qh2 (qg1 _ _) fun _=>qh2 (qg1 _ _) fun _=>qg1 _ _
theorem head_same {f g:Fm} (h:qba f g=0):f.op=g.op∧f.name=g.name∧f.val=g.val∧f.bound=g.bound∧f.args.length=g.args.length:=by
 have hl:=qb3 h
 unfold qba at h
 have r1:=qid h
 have r2:=qid r1
 have r3:=qid r2
 exact ⟨qc8.1 (qcy h),cmpS_eq (qcy r1),qc8.1 (qcy r2),qc8.1 (qcy r3),hl⟩
mutual
theorem qf8 : ∀ f g h:Fm,Tri (f.cmp g) (g.cmp h) (f.cmp h)
 | .mk o n v b l,.mk o' n' v' b' l',.mk o'' n'' v'' b'' l''=>by
  rw [cmp_eq,cmp_eq,cmp_eq]
  exact (head_tri _ _ _).nz fun h1 h2=>cmps_tri l l' l'' (qb3 h1) (qb3 h2)
theorem cmps_tri : ∀ l m n:List Fm,l.length=m.length→m.length=n.length→Tri (qd2 l m) (qd2 m n) (qd2 l n)
 | [],[],[],_,_=>by simp only [qd2];exact qhk 0 0 0
 | f :: l,g :: m,h :: n,h1,h2=>by
  simp only [qd2]
  exact (qf8 f g h).nz fun _ _=>cmps_tri l m n (by simpa using h1) (by simpa using h2)
end
mutual
theorem qdy : ∀ f g:Fm,g.cmp f = -f.cmp g
 | .mk o n v b l,.mk o' n' v' b' l'=>by
  rw [cmp_eq,cmp_eq]
  exact qh2 (head_anti _ _) fun h=>cmps_anti l l' (qb3 h)
theorem cmps_anti : ∀ l m:List Fm,l.length=m.length→qd2 m l = -qd2 l m
 | [],[],_=>by simp [qd2]
 | f :: l,g :: m,h=>by
  simp only [qd2]
  exact qh2 (qdy f g) fun _=>cmps_anti l m (by simpa using h)
end
mutual
theorem cmp_eq_of : ∀ f g:Fm,f.cmp g=0→f=g
 | .mk o n v b l,.mk o' n' v' b' l',h=>by
  rw [cmp_eq] at h
  obtain ⟨h1,h2,h3,h4,h5⟩:=head_same (qcy h)
  exact Fm.ext h1 h2 h3 h4 (cmps_eq_of l l' h5 (qid h))
theorem cmps_eq_of : ∀ l m:List Fm,l.length=m.length→qd2 l m=0→l=m
 | [],[],_,_=>rfl
 | f :: l,g :: m,h1,h2=>by
  simp only [qd2] at h2
  rw [cmp_eq_of f g (qcy h2),cmps_eq_of l m (by simpa using h1) (qid h2)]
end
theorem qeu {f g:Fm} : f.cmp g=0 ↔ f=g:=⟨cmp_eq_of f g,fun h=>by rw [h];exact qf9 g⟩
end Go.Proofs.YtdpbgcmfeajigaaGreatDoor
namespace Go.Proofs.YtdpbgcmfeajigaaGreatDoor
mutual
theorem all_less {q:Fm × Bool→Bool} (hq : ∀ x,q (x,true)=true→q (x,false)=true) : ∀ (f:Fm),(qdg true f).all q=true→(qdg false f).all q=true
 | .mk o n v b l,h=>by
  rw [qgo,List.all_cons,Bool.and_eq_true] at h
  rw [qgo,List.all_cons,Bool.and_eq_true]
  refine ⟨hq _ h.1,?_⟩
  have h2:=h.2
  simp only [Bool.true_or,Bool.false_or,Fm.op,Fm.args] at h2 ⊢
  cases (qal o).past
  ·exact alls_less hq l h2
  ·exact h2
theorem alls_less {q:Fm × Bool→Bool} (hq : ∀ x,q (x,true)=true→q (x,false)=true) : ∀ (l:List Fm),(qer true l).all q=true→(qer false l).all q=true
 | [],_=>rfl
 | f :: l,h=>by
  simp only [qer,List.all_append,Bool.and_eq_true] at h ⊢
  exact ⟨all_less hq f h.1,alls_less hq l h.2⟩
end
theorem qkx {q:Fm × Bool→Bool} {ins:Bool} : ∀ {l:List Fm} {g:Fm},g∈l→(qer ins l).all q=true→(qdg ins g).all q=true
 | [],g,h,_=>by cases h
 | f :: l,g,h,ha=>by
  simp only [qer,List.all_append,Bool.and_eq_true] at ha
  rcases List.mem_cons.1 h with e | e
  ·rw [e];exact ha.1
  ·exact qkx e ha.2
theorem alls_of {q:Fm × Bool→Bool} {ins:Bool} : ∀ {l:List Fm},(∀ g,g∈l→(qdg ins g).all q=true)→(qer ins l).all q=true
 | [],_=>rfl
 | f :: l,h=>by
  simp only [qer,List.all_append,Bool.and_eq_true]
  exact ⟨h f (by simp),alls_of fun g hg=>h g (by simp [hg])⟩
theorem qkz {q:Fm × Bool→Bool} (hq : ∀ x,q (x,true)=true→q (x,false)=true) {f g:Fm} (hg:g∈f.args) (h:allB q f=true):allB q g=true:=by
 unfold allB at h ⊢
 rw [qgo,List.all_cons,Bool.and_eq_true] at h
 have:=qkx hg h.2
 cases hp:(false || (qal f.op).past)
 ·rw [hp] at this;exact this
 ·rw [hp] at this;exact all_less hq g this
theorem allB_imp {q r:Fm × Bool→Bool} (hq : ∀ x,q x=true→r x=true) {f:Fm} (h:allB q f=true):allB r f=true:=by
 unfold allB at h ⊢
 rw [List.all_eq_true] at h ⊢
 exact fun x hx=>hq x (h x hx)
theorem bareQ_less (x:Fm):qbf (x,true)=true→qbf (x,false)=true:=by
 unfold qbf;simp only [Bool.and_eq_true];rintro ⟨⟨⟨h1,h2⟩,h3⟩,h4⟩;exact ⟨⟨⟨h1,h2⟩,by simp⟩,h4⟩
theorem past_layered {f:Fm} (h:allB qci f=true):allB qks f=true:=allB_imp (fun x hx=>by
 unfold qci at hx;unfold qks
 simp only [Bool.not_eq_true'] at hx
 rw [hx];rfl) h
theorem fits_arg {f g:Fm} (hg:g∈f.args) {s d:Int} (h:qa4 f s d=true):qa4 g s d=true:=by
 rw [qb9] at h ⊢
 have h1:=qbt hg
 have h2:=qjq hg
 rw [Fm.size_eq,Fm.depth_eq] at h
 omega
theorem valid_arg {f g:Fm} (hg:g∈f.args) (h:qem f=true):qem g=true:=by
 unfold qem at h ⊢
 rw [Bool.and_eq_true] at h ⊢
 exact ⟨fits_arg hg h.1,qkz (q:=shpQ) (fun _ h=>h) hg h.2⟩
def ltS (a b:ByteArray):Bool:=Go.Op.bytesLess a.toList b.toList
theorem qhv : ∀ l:List UInt8,Go.Op.bytesLess l l=false
 | []=>rfl
 | a :: l=>by rw [Go.Op.bytesLess];simp [qhv l,UInt8.lt_irrefl]
theorem ltS_iff (a b:ByteArray):ltS a b=true ↔ qkw a b < 0:=by
 unfold ltS qkw
 cases h:a.toList == b.toList
 ·cases Go.Op.bytesLess a.toList b.toList <;> simp
 ·have e:a.toList=b.toList:=by simpa using h
  rw [e,qhv];simp
theorem qjf (a:ByteArray):ltS a a=false:=by
 cases h:ltS a a
 ·rfl
 ·rw [ltS_iff,cmpS_self] at h;omega
theorem ltS_trans {a b c:ByteArray} (h:ltS a b=true) (k:ltS b c=true):ltS a c=true:=by
 rw [ltS_iff] at *
 exact (cmpS_tri a b c).lt (by omega) (by omega) (.inl h)
def Asc (l:List ByteArray):Prop:=l.Pairwise fun a b=>ltS a b=true
theorem Asc.ext : ∀ {l m:List ByteArray},Asc l→Asc m→(∀ x,x∈l ↔ x∈m)→l=m
 | [],[],_,_,_=>rfl
 | [],b :: m,_,_,h=>absurd ((h b).2 (by simp)) (by simp)
 | a :: l,[],_,_,h=>absurd ((h a).1 (by simp)) (by simp)
 | a :: l,b :: m,h1,h2,h=>by
  rw [Asc,List.pairwise_cons] at h1 h2
  have hab:a=b:=by
   rcases List.mem_cons.1 ((h a).1 (by simp)) with e | e
   ·exact e
   ·rcases List.mem_cons.1 ((h b).2 (by simp)) with e' | e'
    ·exact e'.symm
    ·have h3:=ltS_trans (h2.1 a e) (h1.1 b e')
     rw [qjf] at h3;cases h3
  subst hab
  congr 1
  refine Asc.ext h1.2 h2.2 fun x=>⟨fun hx => ?_,fun hx => ?_⟩
  ·rcases List.mem_cons.1 ((h x).1 (by simp [hx])) with e | e
   ·have:=h1.1 x hx
    rw [e,qjf] at this;cases this
   ·exact e
  ·rcases List.mem_cons.1 ((h x).2 (by simp [hx])) with e | e
   ·have:=h2.1 x hx
    rw [e,qjf] at this;cases this
   ·exact e
theorem qiv {a b:ByteArray} : (a.toList == b.toList)=true ↔ a=b:=by
 rw [←qfr];exact ⟨cmpS_eq,fun h=>by rw [h];exact cmpS_self _⟩
end Go.Proofs.YtdpbgcmfeajigaaGreatDoor
namespace Go.Proofs.YtdpbgcmfeajigaaGreatDoor
theorem Fm.ind {P:Fm→Prop} (h : ∀ f,(∀ g,g∈f.args→P g)→P f) (f:Fm):P f :=
 Fm.induct (fun f ih=>h f fun g hg=>by
  obtain ⟨i,hi,rfl⟩:=List.getElem_of_mem hg
  have:=ih i hi
  rwa [List.getD_eq_getElem?_getD,List.getElem?_eq_getElem hi] at this) f
theorem qdf {f:Fm} (h:qaz f=true):isOp f.op=true∧(qal f.op).least≤f.args.length∧f.args.length≤(qal f.op).most∧0≤f.val∧f.val≤(qal f.op).val∧0≤f.bound∧f.bound≤(qal f.op).bound∧qht (qal f.op) f.name=true:=by
 unfold qaz at h
 simp only [Bool.and_eq_true,decide_eq_true_eq] at h
 obtain ⟨⟨⟨⟨⟨⟨⟨h1,h2⟩,h3⟩,h4⟩,h5⟩,h6⟩,h7⟩,h8⟩:=h
 exact ⟨h1,h2,h3,h4,h5,h6,h7,h8⟩
theorem shp_of {f:Fm} (h1:isOp f.op=true) (h2:(qal f.op).least≤f.args.length) (h3:f.args.length≤(qal f.op).most) (h4:0≤f.val) (h5:f.val≤(qal f.op).val) (h6:0≤f.bound) (h7:f.bound≤(qal f.op).bound) (h8:qht (qal f.op) f.name=true):qaz f=true:=by
 unfold qaz
 simp only [Bool.and_eq_true,decide_eq_true_eq]
 exact ⟨⟨⟨⟨⟨⟨⟨h1,h2⟩,h3⟩,h4⟩,h5⟩,h6⟩,h7⟩,h8⟩
theorem qfl {o:Int} (h:isOp o=true):o=1∨o=2∨o=3∨o=4∨o=5∨o=6∨o=7∨o=8∨o=9∨o=10∨o=11∨o=12∨o=13∨o=14∨o=15∨o=16∨o=17∨o=18∨o=19:=by
 unfold isOp at h
 simp at h
 omega
def genOp (o:Int):Bool:=isOp o && !(decide (o=3) || decide (o=4) || decide (o=13) || decide (o=14))
theorem gen_cases {o:Int} (h:genOp o=true):o=1∨o=2∨o=5∨o=6∨o=7∨o=8∨o=9∨o=10∨o=11∨o=12∨o=15∨o=16∨o=17∨o=18∨o=19:=by
 unfold genOp isOp at h
 simp at h
 omega
theorem gen_of {o:Int} (h:isOp o=true) (h3:o≠3) (h4:o≠4) (h5:o≠13) (h6:o≠14):genOp o=true:=by
 unfold genOp
 rw [h,decide_eq_false h3,decide_eq_false h4,decide_eq_false h5,decide_eq_false h6];rfl
theorem kf_gen {o:Int} (h:genOp o=true) (neg:Bool) (n:ByteArray) (v b:Int) (l:List Fm):kf neg (.mk o n v b l) = .mk (qbc neg o) n (qe7 neg o v) 0 (qgv neg o ++ kfs (qhx neg o) (qhp neg o) l):=by
 rw [kf_eq]
 simp only [Fm.op,Fm.name,Fm.val,Fm.bound,Fm.args]
 unfold kfOut
 rcases gen_cases h with rfl | rfl | rfl | rfl | rfl | rfl | rfl | rfl | rfl | rfl | rfl | rfl | rfl | rfl | rfl <;> rfl
theorem kf_not (neg:Bool) (n:ByteArray) (v b:Int) (g:Fm):kf neg (.mk 4 n v b [g])=kf (!neg) g:=by
 rw [kf_eq]
 rfl
theorem kf_is (n:ByteArray) (v b:Int):kf false (.mk 3 n v b []) = .mk 3 n v 0 []:=by
 rw [kf_eq]
 rfl
theorem kf_isnot (n:ByteArray) (v b:Int):kf true (.mk 3 n v b [])=opF 4 [isF n v]:=by
 rw [kf_eq]
 rfl
theorem kf_rep {o:Int} (h:o=13∨o=14) (neg:Bool) (n:ByteArray) (v b:Int) (g:Fm):kf neg (.mk o n v b [g])=qi3 (qbc neg o) b.toNat (kf neg g):=by
 rw [kf_eq]
 rcases h with rfl | rfl <;> rfl
theorem one_arg {f:Fm} (h0:(qal f.op).least=1) (h1:(qal f.op).most=1) (hs:qaz f=true) : ∃ g,f.args = [g]:=by
 obtain ⟨_,h2,h3,_⟩:=qdf hs
 rw [h0] at h2
 rw [h1] at h3
 cases hf:f.args with
 | nil=>rw [hf] at h2;simp at h2
 | cons g l =>
  cases l with
  | nil=>exact ⟨g,rfl⟩
  | cons g' l=>rw [hf] at h3;simp at h3
theorem no_arg {f:Fm} (h1:(qal f.op).most=0) (hs:qaz f=true):f.args = []:=by
 obtain ⟨_,h2,h3,_⟩:=qdf hs
 rw [h1] at h3
 exact List.eq_nil_of_length_eq_zero (by omega)
theorem op_parts {f:Fm} (hs:qaz f=true):(f.op=3∧f.args = [])∨(f.op=4 ∧ ∃ g,f.args = [g])∨((f.op=13∨f.op=14) ∧ ∃ g,f.args = [g])∨genOp f.op=true:=by
 have h0:=(qdf hs).1
 by_cases h3:f.op=3
 ·exact .inl ⟨h3,no_arg (by rw [h3];rfl) hs⟩
 ·by_cases h4:f.op=4
  ·exact .inr (.inl ⟨h4,one_arg (by rw [h4];rfl) (by rw [h4];rfl) hs⟩)
  ·by_cases h5:f.op=13
   ·exact .inr (.inr (.inl ⟨.inl h5,one_arg (by rw [h5];rfl) (by rw [h5];rfl) hs⟩))
   ·by_cases h6:f.op=14
    ·exact .inr (.inr (.inl ⟨.inr h6,one_arg (by rw [h6];rfl) (by rw [h6];rfl) hs⟩))
    ·exact .inr (.inr (.inr (gen_of h0 h3 h4 h5 h6)))
def allI (q:Fm × Bool→Bool) (ins:Bool) (f:Fm):Prop:=(qdg ins f).all q=true
theorem qa9 {q:Fm × Bool→Bool} {ins:Bool} {f:Fm} : allI q ins f ↔ q (f,ins)=true ∧ ∀ g,g∈f.args→allI q (ins || (qal f.op).past) g:=by
 unfold allI
 rw [qgo,List.all_cons,Bool.and_eq_true]
 exact and_congr_right fun _=>⟨fun h g hg=>qkx hg h,fun h=>alls_of h⟩
theorem qga {q:Fm × Bool→Bool} {f:Fm} : allB q f=true ↔ allI q false f:=Iff.rfl
theorem bare_mk {ins:Bool} {f:Fm} (h1:(qal f.op).loose=true) (h2:qaz f=true) (h3:(qal f.op).future=true→ins=false) (h4:f.op=4→(f.args.getD 0 default).op=3):qbf (f,ins)=true:=by
 unfold qbf notQ
 simp only [h1,h2,Bool.true_and]
 rw [Bool.and_eq_true]
 constructor
 ·cases hf:(qal f.op).future
  ·rfl
  ·rw [h3 hf];rfl
 ·by_cases e:f.op=4
  ·rw [decide_eq_true e,decide_eq_true (h4 e)];rfl
  ·rw [decide_eq_false e];rfl
theorem nameOk_empty {s:Form} (h:s.named=false):qht s ⟨#[]⟩=true:=by
 unfold qht
 rw [h,ByteArray.toList_eq]
 rfl
theorem shp_opF {o:Int} {l:List Fm} (h0:isOp o=true) (h1:(qal o).least≤l.length) (h2:l.length≤(qal o).most) (hv:0≤(qal o).val) (hb:0≤(qal o).bound) (hn:(qal o).named=false):qaz (opF o l)=true :=
 shp_of h0 h1 h2 (Int.le_refl _) hv (Int.le_refl _) hb (nameOk_empty hn)
theorem allI_leaf {ins:Bool} {o:Int} (h:o=1∨o=2):allI qbf ins (opF o []):=by
 rw [qa9]
 refine ⟨?_,fun g hg=>by cases hg⟩
 rcases h with rfl | rfl
 ·exact bare_mk rfl (shp_opF rfl (by decide) (by decide) (by decide) (by decide) rfl) (fun h=>by cases h) (fun e=>by simp [opF,Fm.op] at e)
 ·exact bare_mk rfl (shp_opF rfl (by decide) (by decide) (by decide) (by decide) rfl) (fun h=>by cases h) (fun e=>by simp [opF,Fm.op] at e)
end Go.Proofs.YtdpbgcmfeajigaaGreatDoor
namespace Go.Proofs.YtdpbgcmfeajigaaGreatDoor
open Go.RowKit Go.Shelf
attribute [local go_sem] qab
theorem own_chg {V:Dom} {w w':World} {base n size:Nat} {e:TypeId} {v:Value} {xs:List Value} (h:w.ownsRow base e size v n xs) (hc:Chg V w w') (hv : ∀ k,v.ownBlock=some k → ¬ V k):w'.ownsRow base e size v n xs:=by
 refine ⟨h.1,?_⟩
 rcases h.2 with h0 | ⟨g,cap,cur,rfl,hb,hg,h1,h2,h3,h4⟩
 ·exact .inl h0
 ·exact .inr ⟨g,cap,cur,rfl,hb,(hc.block g (lt_of_block hg) (hv g rfl)).trans hg,h1,h2,h3,h4⟩
theorem own_set {w:World} {base n size g c:Nat} {e:TypeId} {xs:List Value} (h:w.ownsRow base e size (.slice (some ⟨g,0,none⟩) n c) n xs) {j:Nat} (hj:j < n * size) (u:Value):(w.setCell ⟨g,j,none⟩ u).ownsRow base e size (.slice (some ⟨g,0,none⟩) n c) n (xs.set j u):=by
 refine ⟨by rw [List.length_set];exact h.1,?_⟩
 rcases h.2 with ⟨h0,_⟩ | ⟨g',cap,cur,hv,hb,hg,h1,h2,h3,h4⟩
 ·cases h0
 ·injection hv with e1 e2 e3
  injection e1 with e1
  injection e1 with e1
  subst e1 e3
  refine .inr ⟨g,c,_,rfl,hb,qae hg u,h1,h2,by simpa using h3,?_⟩
  rw [Array.toList_setIfInBounds,←h4,List.take_set]
theorem qes {w:World} {base n size g c:Nat} {e:TypeId} {xs:List Value} (h:w.ownsRow base e size (.slice (some ⟨g,0,none⟩) n c) n xs) {j:Nat} {u:Value} (hu:xs[j]? = some u):w.cell? ⟨g,j,none⟩=some u∧w.frozen? ⟨g,j,none⟩=false∧g < w.heap.size:=by
 rcases h.2 with ⟨h0,_⟩ | ⟨g',cap,cur,hv,hb,hg,h1,h2,h3,h4⟩
 ·cases h0
 ·injection hv with e1 e2 e3
  injection e1 with e1
  injection e1 with e1
  subst e1 e3
  refine ⟨qaa hg ?_,qad hg,lt_of_block hg⟩
  rw [←h4,List.getElem?_take] at hu
  split at hu
  ·simpa using hu
  ·cases hu
def Nw (base:Nat) (w:World):Dom:=fun k=>base≤k∧Cl w k
theorem Nw.keep {base:Nat} {w w':World} {D:Dom} (hk:Keeps D w w') (hD : ∀ k,Nw base w k→D k) {k:Nat} (h:Nw base w k):Nw base w' k:=⟨h.1,h.2.of_eq (hk.block k (hD k h) h.2.lt)⟩
theorem RdA.nw {w w':World} {base:Nat} {l:List Fm} {A:Option Addr} {c:Nat} {V:Dom} (h:RdA w (Nw base w) l A c) (hc:Chg V w w') (hv : ∀ k,V k→k < base):RdA w' (Nw base w') l A c:=by
 have hk:Keeps (Nw base w) w w':=hc.keeps fun k _ hk hv'=>by have:=hv k hv';have:=hk.1;omega
 exact (h.keep hk).mono fun k hk' _=>hk'.keep hk (fun _ h=>h)
theorem RdA.base {w:World} {base base':Nat} {l:List Fm} {A:Option Addr} {c:Nat} (h:RdA w (Nw base w) l A c) (hb:base'≤base):RdA w (Nw base' w) l A c:=h.mono fun k hk _=>⟨Nat.le_trans hb hk.1,hk.2⟩
structure qbm (w:World) (base:Nat) (A:Option Addr) (c:Nat) (gs:List Fm) (sl:List (Option Addr × Nat)):Prop where
 own:w.ownsRow base 24 5 (.slice A gs.length c) gs.length (qav gs sl)
 len:sl.length=gs.length
 arg : ∀ i,i < gs.length→RdA w (fun k=>Nw base w k∧(Value.slice A gs.length c).ownBlock≠some k) (gs.getD i default).args (sl.getD i (none,0)).1 (sl.getD i (none,0)).2
theorem qch {gs:List Fm} {sl:List (Option Addr × Nat)} (h:sl.length=gs.length):(qav gs sl).length=gs.length * 5:=by
 unfold qav
 have : ∀ l:List (Fm × (Option Addr × Nat)),(l.flatMap fun p=>qbr p.1 p.2).length=l.length * 5:=by
  intro l
  induction l with
  | nil=>rfl
  | cons x l ih =>
   rw [List.flatMap_cons,List.length_append,ih,List.length_cons,Nat.add_mul,Nat.one_mul,Nat.add_comm]
   rfl
 rw [this,List.length_zip,h,Nat.min_self]
theorem qev {gs ms:List Fm} {sl sm:List (Option Addr × Nat)} (h:sl.length=gs.length):qav (gs ++ ms) (sl ++ sm)=qav gs sl ++ qav ms sm:=by
 unfold qav
 rw [List.zip_append h.symm,List.flatMap_append]
section
variable {w w':World} {base c:Nat} {A:Option Addr} {gs:List Fm} {sl:List (Option Addr × Nat)}
theorem qbm.nil (w:World) (base:Nat):qbm w base none 0 [] []:=⟨⟨rfl,.inl ⟨rfl,rfl⟩⟩,rfl,fun i h=>absurd h (Nat.not_lt_zero _)⟩
theorem qbm.ge (h:qbm w base A c gs sl) {k:Nat} (hk:(Value.slice A gs.length c).ownBlock=some k):base≤k∧k < w.heap.size:=by
 rcases h.own.2 with ⟨h0,_⟩ | ⟨g,cap,cur,hv,hb,hg,_⟩
 ·rw [h0] at hk;cases hk
 ·rw [hv] at hk
  injection hk with hk
  have:g=k:=hk
  subst this
  exact ⟨hb,lt_of_block hg⟩
theorem qbm.chg {V:Dom} (h:qbm w base A c gs sl) (hc:Chg V w w') (hv : ∀ k,V k→k < base):qbm w' base A c gs sl:=by
 refine ⟨own_chg h.own hc fun k hk hv'=>by have:=hv k hv';have:=h.ge hk;omega,h.len,fun i hi => ?_⟩
 have hk:Keeps (fun k=>Nw base w k∧(Value.slice A gs.length c).ownBlock≠some k) w w':=hc.keeps fun k _ hk hv'=>by have:=hv k hv';have:=hk.1.1;omega
 exact ((h.arg i hi).keep hk).mono fun k hk' _=>⟨⟨hk'.1.1,hk'.1.2.of_eq (hk.block k hk' hk'.1.2.lt)⟩,hk'.2⟩
theorem qbm.rd (h:qbm w base A c gs sl) (hn:gs.length≤140737488355328):RdA w (Nw base w) gs A c:=by
 refine .mk gs A c sl h.len ?_ fun i hi=>(h.arg i hi).mono fun k hk _=>hk.1
 rcases h.own.2 with ⟨hv,h0⟩ | ⟨g,cap,cur,hv,hb,hh,h1,h2,hsz,htk⟩
 ·injection hv with hA _ hc
  have:gs = []:=List.eq_nil_of_length_eq_zero h0
  subst this hc
  have hl:=h.len
  have:sl = []:=List.eq_nil_of_length_eq_zero hl
  subst this
  exact Rd.nil _ _ _ _ (by omega)
 ·injection hv with hA _ hc
  subst hA hc
  refine ⟨⟨h.own.1,hn,h1,h2⟩,fun hn=>⟨g,0,rfl,⟨hb,_,_,hh⟩,lt_of_block hh,fun j u hu => ?_⟩⟩
  rw [←htk,List.getElem?_take] at hu
  split at hu
  ·simp [World.cell?,hh];simpa using hu
  ·cases hu
theorem qbm.app {A':Option Addr} {c' n:Nat} {ms:List Fm} {sm:List (Option Addr × Nat)} (h:qbm w base A c gs sl) (hg:w.grownBy w' (Value.slice A gs.length c).ownBlock) (hn:n=(gs ++ ms).length)
  (hown:w'.ownsRow base 24 5 (.slice A' n c') n (qav gs sl ++ qav ms sm)) (hb:(Value.slice A' n c').ownBlock=(Value.slice A gs.length c).ownBlock∨(Value.slice A' n c').ownBlock=some w.heap.size) (hsm:sm.length=ms.length)
  (hms : ∀ i,i < ms.length→RdA w (fun k=>Nw base w k∧(Value.slice A gs.length c).ownBlock≠some k) (ms.getD i default).args (sm.getD i (none,0)).1 (sm.getD i (none,0)).2):qbm w' base A' c' (gs ++ ms) (sl ++ sm):=by
 subst hn
 have key : ∀ {l:List Fm} {B:Option Addr} {d:Nat},RdA w (fun k=>Nw base w k∧(Value.slice A gs.length c).ownBlock≠some k) l B d→RdA w' (fun k=>Nw base w' k∧(Value.slice A' (gs ++ ms).length c').ownBlock≠some k) l B d:=fun h1=>by
  have hk:Keeps (fun k=>Nw base w k∧(Value.slice A gs.length c).ownBlock≠some k) w w':=⟨hg.size,fun k hk hl=>hg.block k hl (fun e=>hk.2 e.symm)⟩
  have h2:=h1.keep hk
  refine (h1.mono (E:=fun k=>(Nw base w k∧(Value.slice A gs.length c).ownBlock≠some k)∧k < w.heap.size) fun k hk hl=>⟨hk,hl⟩).keep (w':=w') ⟨hg.size,fun k hk hl=>hg.block k hl (fun e=>hk.1.2 e.symm)⟩ |>.mono fun k hk' _=>⟨⟨hk'.1.1.1,hk'.1.1.2.of_eq (hg.block k hk'.2 (fun e=>hk'.1.2 e.symm))⟩,fun e => ?_⟩
  rcases hb with hb | hb
  ·rw [hb] at e;exact hk'.1.2 e
  ·rw [hb] at e
   injection e with e
   have:=hk'.2
   omega
 refine ⟨by rw [qev h.len];exact hown,by rw [List.length_append,List.length_append,h.len,hsm],fun i hi => ?_⟩
 by_cases hl:i < gs.length
 ·have e1:(gs ++ ms).getD i default=gs.getD i default:=by simp [List.getD,List.getElem?_append_left hl]
  have e2:(sl ++ sm).getD i (none,0)=sl.getD i (none,0):=by simp [List.getD,List.getElem?_append_left (show i < sl.length by rw [h.len];exact hl)]
  rw [e1,e2]
  exact key (h.arg i hl)
 ·have hl2:i - gs.length < ms.length:=by rw [List.length_append] at hi;omega
  have e1:(gs ++ ms).getD i default=ms.getD (i - gs.length) default:=by simp [List.getD,List.getElem?_append_right (show gs.length≤i by omega)]
  have e2:(sl ++ sm).getD i (none,0)=sm.getD (i - gs.length) (none,0):=by simp [List.getD,List.getElem?_append_right (show sl.length≤i by rw [h.len];omega),h.len]
  rw [e1,e2]
  exact key (hms _ hl2)
end
def qbs:Fm := .mk 0 ⟨#[]⟩ 0 0 []
theorem cellsF_cons (g:Fm) (gs:List Fm) (s:Option Addr × Nat) (sl:List (Option Addr × Nat)):qav (g :: gs) (s :: sl)=qbr g s ++ qav gs sl:=rfl
theorem cellsF_set : ∀ (gs:List Fm) (sl:List (Option Addr × Nat)) (i:Nat) (f:Fm) (s:Option Addr × Nat),i < gs.length→sl.length=gs.length →
  (((((qav gs sl).set (i * 5) (.int .i64 f.op)).set (i * 5+1) (.string f.name)).set (i * 5+2) (.int .i64 f.val)).set (i * 5+3) (.int .i64 f.bound)).set (i * 5+4) (.slice s.1 f.args.length s.2)=qav (gs.set i f) (sl.set i s)
 | [],_,i,_,_,h,_=>absurd h (Nat.not_lt_zero _)
 | g :: gs,[],_,_,_,_,h=>by cases h
 | g :: gs,t :: sl,0,f,s,_,_=>rfl
 | g :: gs,t :: sl,i+1,f,s,h,hl=>by
  have ih:=cellsF_set gs sl i f s (by simpa using h) (by simpa using hl)
  rw [List.set_cons_succ,List.set_cons_succ,cellsF_cons,cellsF_cons,←ih]
  have e0:(qbr g t).length=5:=rfl
  have e : ∀ r,(i+1) * 5+r - 5=i * 5+r:=fun r=>by omega
  have e':(i+1) * 5 - 5=i * 5:=by omega
  rw [List.set_append_right _ _ (by omega),List.set_append_right _ _ (by omega),List.set_append_right _ _ (by omega),List.set_append_right _ _ (by omega),List.set_append_right _ _ (by omega),e0,e,e,e,e,e']
theorem qf6 {α : Type} {l:List α} {i:Nat} {x d : α} (h:i < l.length):(l.set i x).getD i d=x:=by simp [List.getD,h]
theorem getD_set_ne {α : Type} {l:List α} {i j:Nat} {x d : α} (h:i≠j):(l.set i x).getD j d=l.getD j d:=by simp [List.getD,List.getElem?_set,h]
theorem qbm.set {w:World} {base g c:Nat} {gs:List Fm} {sl:List (Option Addr × Nat)} (h:qbm w base (some ⟨g,0,none⟩) c gs sl) {i:Nat} (hi:i < gs.length) (f:Fm) (A:Option Addr) (d:Nat)
  (hf:RdA w (fun k=>Nw base w k∧k≠g) f.args A d) :
  qbm (((((w.setCell ⟨g,i * 5,none⟩ (.int .i64 f.op)).setCell ⟨g,i * 5+1,none⟩ (.string f.name)).setCell ⟨g,i * 5+2,none⟩ (.int .i64 f.val)).setCell ⟨g,i * 5+3,none⟩ (.int .i64 f.bound)).setCell ⟨g,i * 5+4,none⟩ (.slice A f.args.length d)) base (some ⟨g,0,none⟩) c (gs.set i f) (sl.set i (A,d)):=by
 obtain ⟨w',hw'⟩ : ∃ w',w'=(((((w.setCell ⟨g,i * 5,none⟩ (.int .i64 f.op)).setCell ⟨g,i * 5+1,none⟩ (.string f.name)).setCell ⟨g,i * 5+2,none⟩ (.int .i64 f.val)).setCell ⟨g,i * 5+3,none⟩ (.int .i64 f.bound)).setCell ⟨g,i * 5+4,none⟩ (.slice A f.args.length d)):=⟨_,rfl⟩
 have hc:Chg (fun k=>k=g) w w':=by
  rw [hw']
  exact (((((Chg.refl (fun k=>k=g) w).set ⟨g,_,none⟩ _ fun _=>rfl).set ⟨g,_,none⟩ _ fun _=>rfl).set ⟨g,_,none⟩ _ fun _=>rfl).set ⟨g,_,none⟩ _ fun _=>rfl).set ⟨g,_,none⟩ _ fun _=>rfl
 have hown:w'.ownsRow base 24 5 (.slice (some ⟨g,0,none⟩) gs.length c) gs.length (qav (gs.set i f) (sl.set i (A,d))):=by
  have h0:=own_set (own_set (own_set (own_set (own_set h.own (j:=i * 5) (by omega) (.int .i64 f.op)) (j:=i * 5+1) (by omega) (.string f.name)) (j:=i * 5+2) (by omega) (.int .i64 f.val)) (j:=i * 5+3) (by omega) (.int .i64 f.bound)) (j:=i * 5+4) (by omega) (.slice A f.args.length d)
  rw [cellsF_set gs sl i f (A,d) hi h.len] at h0
  rw [hw']
  exact h0
 rw [←hw']
 clear hw'
 have key : ∀ {l:List Fm} {B:Option Addr} {e:Nat},RdA w (fun k=>Nw base w k∧k≠g) l B e→RdA w' (fun k=>Nw base w' k∧(Value.slice (some ⟨g,0,none⟩) gs.length c).ownBlock≠some k) l B e:=fun h1=>by
  have hk:Keeps (fun k=>Nw base w k∧k≠g) w w':=hc.keeps fun k _ hk hv=>hk.2 hv
  exact (h1.keep hk).mono fun k hk' _=>⟨⟨hk'.1.1,hk'.1.2.of_eq (hk.block k hk' hk'.1.2.lt)⟩,fun e=>by injection e with e;exact hk'.2 e.symm⟩
 refine ⟨by rw [List.length_set];exact hown,by rw [List.length_set,List.length_set];exact h.len,fun j hj => ?_⟩
 rw [List.length_set] at hj ⊢
 by_cases e:i=j
 ·subst e
  rw [qf6 hi,qf6 (by rw [h.len];exact hi)]
  exact key hf
 ·rw [getD_set_ne e,getD_set_ne e]
  exact key ((h.arg j hj).mono fun k hk _=>⟨hk.1,fun e=>hk.2 (by rw [e];rfl)⟩)
def BB (w:World) (bb:Nat) (left:Int) (over:Bool):Prop:=w.heap[bb]? = some (.cells #[.int .i64 left,.bool over] 107 (0,0))
theorem BB.chg {V:Dom} {w w':World} {bb:Nat} {left:Int} {over:Bool} (h:BB w bb left over) (hc:Chg V w w') (hv : ¬ V bb):BB w' bb left over:=hc.box h hv
theorem BB.below {w w':World} {bb:Nat} {left:Int} {over:Bool} (h:BB w bb left over) (hb:Below w.heap.size w w'):BB w' bb left over:=(hb.block _ (lt_of_block h)).trans h
theorem BB.drawn {w w':World} {bb:Nat} {left:Int} {over:Bool} (h:BB w bb left over) (hd:qap w w'):BB w' bb left over:=h.below (hd.below _)
def qb4 (left:Int) (over:Bool) (d:Int):Bool:=over || (decide (left - 1 < 0) || decide (d < 1))
theorem take_any (bb:Nat) (left d:Int) (over:Bool) (w:World) (h:BB w bb left over) (h0 : -1000000≤left) (h1:left≤1000000) :
  Calls Tryz.prog 110 #[.pointer (some ⟨bb,0,none⟩),.int .i64 d] w fun e w'=>e = .returned (.bool (!qb4 left over d))∧Chg (fun k=>k=bb) w w'∧BB w' bb (left - 1) (qb4 left over d):=by
 have c0:=qaa h (i:=0) rfl
 have f0:=qad h (i:=0)
 have c1:=qaa h (i:=1) rfl
 have f1:=qad h (i:=1)
 have hl:=lt_of_block h
 have HB:=hid h
 have hw:IntKind.i64.wrap (left - 1)=left - 1:=IntWalk.i64_in _ (by omega)
 clear h
 by_cases h2:left - 1 < 0
 ·have d2:decide (left - 1 < 0)=true:=decide_eq_true h2
  have HT:=hid (show qb4 left over d=true by unfold qb4;rw [d2];simp)
  go_enter Tryz.func110,Tryz.ntmps110
  go_wp2_with fail
  go_ret
  refine ⟨by rw [HT.out];rfl,((Chg.refl (fun k=>k=bb) w).set ⟨bb,0,none⟩ _ fun _=>rfl).set ⟨bb,1,none⟩ _ fun _=>rfl,?_⟩
  unfold BB
  rw [qae (qae HB.out _),HT.out]
  rfl
 ·have d2:decide (left - 1 < 0)=false:=decide_eq_false h2
  by_cases h3:d < 1
  ·have d3:decide (d < 1)=true:=decide_eq_true h3
   have HT:=hid (show qb4 left over d=true by unfold qb4;rw [d3];simp)
   go_enter Tryz.func110,Tryz.ntmps110
   go_wp2_with fail
   go_ret
   refine ⟨by rw [HT.out];rfl,((Chg.refl (fun k=>k=bb) w).set ⟨bb,0,none⟩ _ fun _=>rfl).set ⟨bb,1,none⟩ _ fun _=>rfl,?_⟩
   unfold BB
   rw [qae (qae HB.out _),HT.out]
   rfl
  ·have d3:decide (d < 1)=false:=decide_eq_false h3
   have HT:=hid (show qb4 left over d=over by unfold qb4;rw [d2,d3];simp)
   go_enter Tryz.func110,Tryz.ntmps110
   go_wp2_with fail
   go_ret
   refine ⟨by rw [HT.out];rfl,(Chg.refl (fun k=>k=bb) w).set ⟨bb,0,none⟩ _ fun _=>rfl,?_⟩
   unfold BB
   rw [qae HB.out,HT.out]
   rfl
end Go.Proofs.YtdpbgcmfeajigaaGreatDoor
