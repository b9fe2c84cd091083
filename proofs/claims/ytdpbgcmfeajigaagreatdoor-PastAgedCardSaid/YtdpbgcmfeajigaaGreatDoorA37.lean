/-
  Parts of a proof: QV QW QY R3 R4 R5 R6.
-/
import Derived.Test.YtdpbgcmfeajigaaGreatDoorA35
import Derived.Laws.CopyOwn
import Derived.Test.YtdpbgcmfeajigaaGreatDoorA36
set_option linter.unusedSimpArgs false
set_option linter.unusedVariables false
set_option maxHeartbeats 8000000
set_option maxRecDepth 100000
namespace Go.Proofs.YtdpbgcmfeajigaaGreatDoor
open Go.RowKit in
theorem Keeps.alloc {D:Dom}{w w':World}(h:Keeps D w w')(o:Obj):Keeps D w (w'.alloc o):=⟨Nat.le_trans h.size (by simp),λ b hb hl=>(Below.heap_alloc _ _ _ (Nat.lt_of_lt_of_le hl h.size)).trans (h.block b hb hl)⟩
theorem BD {a b a' b':Nat->Bool}{n:Nat}(ha:∀t,a' t=a (n+t))(hb:∀t,b' t=b (n+t))(t:Nat):kC a' b' t=kC a b (n+t):=by
 rw[Bool.eq_iff_iff,jO,jO]
 constructor
 ·rintro⟨k,hk,h1,h2⟩
  refine⟨n+k,by omega,by rw[<-hb];exact h1,λ j h3 h4=>?_⟩;have:=h2 (j-n) (by omega) (by omega);rw[ha,show n+(j-n)=j by omega]at this;exact this
 ·rintro⟨k,hk,h1,h2⟩
  refine⟨k-n,by omega,by rw[hb,show n+(k-n)=k by omega];exact h1,λ j h3 h4=>?_⟩;rw[ha];exact h2 (n+j) (by omega) (by omega)
theorem Gq {a b a' b':Nat->Bool}{n:Nat}(ha:∀t,a' t=a (n+t))(hb:∀t,b' t=b (n+t))(t:Nat):lQ a' b' t=lQ a b (n+t):=by
 unfold lQ;rw[BD (a := λ k => !a k) (b := λ k => !b k) (λ t=>by rw[ha]) (λ t=>by rw[hb])]
def qaa (a b:Nat->Bool)(c:Bool):Nat->Bool
 | 0=>c
 | n+1=>dI a b c n
theorem Bz {a b a' b':Nat->Bool}{c:Bool}{n:Nat}(ha:∀t,a' t=a (n+t))(hb:∀t,b' t=b (n+t)):∀t,dI a' b' (qaa a b c n) t=dI a b c (n+t)
 | 0=>by
  rw[dI,ha,hb]
  cases n with
  | zero=>rfl
  | succ n=>rfl
 | t+1=>by
  rw[dI,Bz ha hb t,ha,hb];rfl
def O5 (a b:Nat->Bool)(c:Bool):Nat->Bool
 | 0=>c
 | n+1=>bY a b c n
theorem xH {a b a' b':Nat->Bool}{c:Bool}{n:Nat}(ha:∀t,a' t=a (n+t))(hb:∀t,b' t=b (n+t)):∀t,bY a' b' (O5 a b c n) t=bY a b c (n+t)
 | 0=>by
  rw[bY,ha,hb]
  cases n with
  | zero=>rfl
  | succ n=>rfl
 | t+1=>by
  rw[bY,xH ha hb t,ha,hb];rfl
theorem qa4 (L:List Fm)(m:Nat)(x:Fm):decide (Ee L m x=1)=bG L m x:=by
 unfold Ee
 cases bG L m x <;> rfl
theorem Yh {l:List Sg}{W W':iV}{f:Fm}{n:Nat}(hl:bf f=true)(hk:kP l f)(hW:∀t,aP W' t=aP W (n+t))(x:Fm):bf x=true->(∀y,y∈aY x->y∈aZ f) ->
  ∀t,cZ (iw l W') (qy (aZ f) (lI l (aZ f) W n) x) t=cZ (iw l W) x (n+t):=by
 refine Fm.pW (P := λ x=>bf x=true->(∀y,y∈aY x->y∈aZ f)->∀t,cZ (iw l W') (qy (aZ f) (lI l (aZ f) W n) x) t=cZ (iw l W) x (n+t)) ?_ x;intro x ih hx hin t;have hih:∀g,g∈x.args->∀t,cZ (iw l W') (qy (aZ f) (lI l (aZ f) W n) g) t=cZ (iw l W) g (n+t) := λ g hg=>ih g hg (qF hg hx) λ y hy=>hin y (mQ hg hy);have har:=lX (iG hx)
 have hga:∀i,i<x.args.length->((x.args.map (qy (aZ f) (lI l (aZ f) W n))).map (cZ (iw l W'))).getD i (λ _=>false) = λ t=>cZ (iw l W) (x.args.getD i default) (n+t) := λ i hi=>by
  rw[List.map_map,qP _ _ _ _ hi]
  funext t
  exact hih _ (dA hi) t
 have hgs:∀i,i<x.args.length->(x.args.map (cZ (iw l W))).getD i (λ _=>false)=cZ (iw l W) (x.args.getD i default) := λ i hi=>qP _ _ _ _ hi
 have hself:jV x.op=true->decide ((qy (aZ f) (lI l (aZ f) W n) x).val=1)=before l W x n := λ h=>by
  unfold qy;rw[qI,if_pos h,qa4];exact Oa hl hk n x (hin x (qY h))
 have hs2:(λ t=>iw l W' t (qy (aZ f) (lI l (aZ f) W n) x).name (qy (aZ f) (lI l (aZ f) W n) x).val) t=iw l W (n+t) x.name (if jV x.op then(qy (aZ f) (lI l (aZ f) W n) x).val else x.val):=by
  show iw l W' t _ _=_;unfold iw;rw[hW];unfold qy;rw[xO,qI]
  by_cases hr:jV x.op=true
  ·rw[if_pos hr,if_pos hr]
  ·rw[if_neg hr,if_neg hr]
 rw[sF,sF (iw l W)];have hop:(qy (aZ f) (lI l (aZ f) W n) x).op=x.op:=kD _ _;have hargs:(qy (aZ f) (lI l (aZ f) W n) x).args=x.args.map (qy (aZ f) (lI l (aZ f) W n)):=jW _ _;rw[hop,hargs]
 generalize hq:qy (aZ f) (lI l (aZ f) W n)=q at *
 have hc:=kT (jE (dL.1 (iI hx).2.2).1).1
 have hc2:x.op=1\/x.op=2\/x.op=3\/x.op=4\/x.op=5\/x.op=6\/x.op=8\/x.op=9\/x.op=10\/x.op=15\/x.op=16\/x.op=17:=by
  unfold vC at hc;omega
 rcases hc2 with e|e|e|e|e|e|e|e|e|e|e|e
 ·rw[e];rfl
 ·rw[e];rfl
 ·rw[e]at hs2⊢
  rw[if_neg (by decide)]at hs2;exact hs2
 ·have h1:=har.1 (.inl e)
  rw[e];show(!((x.args.map q).map (cZ (iw l W'))).getD 0 (λ _=>false) t)=(!(x.args.map (cZ (iw l W))).getD 0 (λ _=>false) (n+t));rw[hga 0 (by omega),hgs 0 (by omega)]
 ·rw[e]
  show((x.args.map q).map (cZ (iw l W'))).all (λ u=>u t)=(x.args.map (cZ (iw l W))).all λ u=>u (n+t);rw[List.map_map];exact qM λ g hg=>hih g hg t
 ·rw[e]
  show((x.args.map q).map (cZ (iw l W'))).any (λ u=>u t)=(x.args.map (cZ (iw l W))).any λ u=>u (n+t);rw[List.map_map];exact qN λ g hg=>hih g hg t
 ·have h1:=har.1 (.inr (.inl e))
  rw[e];show((x.args.map q).map (cZ (iw l W'))).getD 0 (λ _=>false) (t+1)=(x.args.map (cZ (iw l W))).getD 0 (λ _=>false) (n+t+1);rw[hga 0 (by omega),hgs 0 (by omega)];rfl
 ·have h1:=har.2 (.inl e)
  rw[e];show kC (((x.args.map q).map (cZ (iw l W'))).getD 0 λ _=>false) (((x.args.map q).map (cZ (iw l W'))).getD 1 λ _=>false) t=kC ((x.args.map (cZ (iw l W))).getD 0 λ _=>false) ((x.args.map (cZ (iw l W))).getD 1 λ _=>false) (n+t);rw[hga 0 (by omega),hgs 0 (by omega),hga 1 (by omega),hgs 1 (by omega)];exact BD (λ _=>rfl) (λ _=>rfl) t
 ·have h1:=har.2 (.inr (.inl e))
  rw[e];show lQ (((x.args.map q).map (cZ (iw l W'))).getD 0 λ _=>false) (((x.args.map q).map (cZ (iw l W'))).getD 1 λ _=>false) t=lQ ((x.args.map (cZ (iw l W))).getD 0 λ _=>false) ((x.args.map (cZ (iw l W))).getD 1 λ _=>false) (n+t);rw[hga 0 (by omega),hgs 0 (by omega),hga 1 (by omega),hgs 1 (by omega)];exact Gq (λ _=>rfl) (λ _=>rfl) t
 ·have h1:=har.1 (.inr (.inr e))
  have h2:=hself (by rw[e];rfl);have hlk:iy x=x.args.getD 0 default:=by unfold iy;rw[if_pos e]
  rw[e];show((decide (t=0)&&decide ((q x).val=1)) || (decide (0<t)&&((x.args.map q).map (cZ (iw l W'))).getD 0 (λ _=>false) (t-1)))=((decide (n+t=0)&&decide (x.val=1)) || (decide (0<n+t)&&(x.args.map (cZ (iw l W))).getD 0 (λ _=>false) (n+t-1)));rw[h2,hga 0 (by omega),hgs 0 (by omega)]
  cases t with
  | zero =>
   cases n with
   | zero=>simp[before]
   | succ n=>simp[before,hlk]
  | succ t =>
   have h5:n+(t+1)-1=n+t:=by omega
   have h6:decide (0<n+(t+1))=true:=decide_eq_true (by omega);have h7:decide (n+(t+1)=0)=false:=decide_eq_false (by omega);rw[h5,h6,h7];simp
 ·have h1:=har.2 (.inr (.inr (.inl e)))
  have h2:=hself (by rw[e];rfl);have hlk:iy x=x:=by unfold iy;rw[if_neg (by omega)]
  rw[e];show dI (((x.args.map q).map (cZ (iw l W'))).getD 0 λ _=>false) (((x.args.map q).map (cZ (iw l W'))).getD 1 λ _=>false) (decide ((q x).val=1)) t=dI ((x.args.map (cZ (iw l W))).getD 0 λ _=>false) ((x.args.map (cZ (iw l W))).getD 1 λ _=>false) (decide (x.val=1)) (n+t);rw[h2,hga 0 (by omega),hgs 0 (by omega),hga 1 (by omega),hgs 1 (by omega)]
  have h3:before l W x n=qaa (cZ (iw l W) (x.args.getD 0 default)) (cZ (iw l W) (x.args.getD 1 default)) (decide (x.val=1)) n:=by
   cases n with
   | zero=>rfl
   | succ n =>
    show cZ (iw l W) (iy x) n=dI _ _ _ n;rw[hlk,sF,e];show dI ((x.args.map (cZ (iw l W))).getD 0 λ _=>false) ((x.args.map (cZ (iw l W))).getD 1 λ _=>false) (decide (x.val=1)) n=_;rw[hgs 0 (by omega),hgs 1 (by omega)]
  rw[h3];exact Bz (λ _=>rfl) (λ _=>rfl) t
 ·have h1:=har.2 (.inr (.inr (.inr e)))
  have h2:=hself (by rw[e];rfl);have hlk:iy x=x:=by unfold iy;rw[if_neg (by omega)]
  rw[e];show bY (((x.args.map q).map (cZ (iw l W'))).getD 0 λ _=>false) (((x.args.map q).map (cZ (iw l W'))).getD 1 λ _=>false) (decide ((q x).val=1)) t=bY ((x.args.map (cZ (iw l W))).getD 0 λ _=>false) ((x.args.map (cZ (iw l W))).getD 1 λ _=>false) (decide (x.val=1)) (n+t);rw[h2,hga 0 (by omega),hgs 0 (by omega),hga 1 (by omega),hgs 1 (by omega)]
  have h3:before l W x n=O5 (cZ (iw l W) (x.args.getD 0 default)) (cZ (iw l W) (x.args.getD 1 default)) (decide (x.val=1)) n:=by
   cases n with
   | zero=>rfl
   | succ n =>
    show cZ (iw l W) (iy x) n=bY _ _ _ n;rw[hlk,sF,e];show bY ((x.args.map (cZ (iw l W))).getD 0 λ _=>false) ((x.args.map (cZ (iw l W))).getD 1 λ _=>false) (decide (x.val=1)) n=_;rw[hgs 0 (by omega),hgs 1 (by omega)]
  rw[h3];exact xH (λ _=>rfl) (λ _=>rfl) t
theorem Wu {l:List Sg}{W W':iV}{f:Fm}{n:Nat}(hl:bf f=true)(hk:kP l f)(hL:0<W.loop.length)(hL':0<W'.loop.length)(hW:∀t,aP W' t=aP W (n+t))(t:Nat) :
  pU l (qy (aZ f) (lI l (aZ f) W n) f) W' t=pU l f W (n+t):=by
 rw[Ji l f W (n+t) hL (iG hl),Ji l (qy (aZ f) (lI l (aZ f) W n) f) W' t hL' (iG (E5 hl λ _ _=>Ku ..))];exact Yh hl hk hW f hl (λ y hy=>(qW hl).2 hy) t
theorem VO {l:List Sg}{vb:Fm->Int}(f:Fm):kP l f->kP l (fC vb f):=by
 refine Fm.pW (P := λ f=>kP l f->kP l (fC vb f)) ?_ f;intro f ih h;obtain⟨h1,h2⟩:=wW h;refine .mk (λ e=>?_) λ g hg=>?_
 ·have e3:f.op=3:=by rw[kD]at e;exact e
  have:=h1 e3;rw[xO,qI,if_neg (by rw[e3];decide)];exact this
 ·rw[jW]at hg
  obtain⟨y,hy,rfl⟩:=List.mem_map.1 hg;exact ih y hy (h2 y hy)
def Hz (l:List Int)(p:Nat):Prop:=0<p/\p<=l.length/\l.length % p=0/\∀i,i+p<l.length->l.getD (i+p) 0=l.getD i 0
theorem Hz.at {l:List Int}{p:Nat}(h:Hz l p):∀i,i<l.length->l.getD i 0=l.getD (i % p) 0:=by
 intro i
 induction i using Nat.strongRecOn with
 | ind i ih =>
  intro hi
  by_cases hp:i<p
  ·rw[Nat.mod_eq_of_lt hp]
  ·have h1:=h.2.2.2 (i-p) (by omega)
   rw[show i-p+p=i by omega]at h1;rw[h1,ih (i-p) (by have:=h.1;omega) (by omega)]
   have:i % p=(i-p) % p:=by
    conv=>lhs;rw[show i=i-p+p by omega]
    rw[Nat.add_mod_right]
   rw[this]
theorem Hz.all {l:List Int}{p:Nat}(h:Hz l p)(j:Nat):l.getD (j % l.length) 0=(l.take p).getD (j % p) 0:=by
 have hp:=h.1;have hl:=h.2.1;rw[h.at _ (Nat.mod_lt _ (by omega)),Nat.mod_mod_of_dvd _ (Nat.dvd_of_mod_eq_zero h.2.2.1)];simp only[List.getD_eq_getElem?_getD];rw[List.getElem?_take_of_lt (Nat.mod_lt _ hp)]
def jG (l:List Int)(k:Nat):List Int:=l.drop k++l.take k
theorem qH {l:List Int}{k:Nat}(hk:k<=l.length):(jG l k).length=l.length:=by
 unfold jG;rw[List.length_append,List.length_drop,List.length_take];omega
theorem qac {l:List Int}{k i:Nat}(hk:k<l.length)(hi:i<l.length):(jG l k).getD i 0=l.getD ((i+k) % l.length) 0:=by
 unfold jG;simp only[List.getD_eq_getElem?_getD]
 by_cases h:i<l.length-k
 ·rw[List.getElem?_append_left (by rw[List.length_drop];exact h),List.getElem?_drop,Nat.mod_eq_of_lt (show i+k<l.length by omega),Nat.add_comm]
 ·rw[List.getElem?_append_right (by rw[List.length_drop];omega),List.length_drop,List.getElem?_take_of_lt (by omega)]
  have:(i+k) % l.length=i-(l.length-k):=by
   rw[Nat.mod_eq_sub_mod (by omega),Nat.mod_eq_of_lt (by omega)];omega
  rw[this]
theorem JI {l:List Int}{k:Nat}(hk:k<l.length)(j:Nat):(jG l k).getD (j % l.length) 0=l.getD ((j+k) % l.length) 0:=by
 rw[qac hk (Nat.mod_lt _ (by omega)),Nat.mod_add_mod]
def Iw (stem lp:List Int)(keep back:Nat):Prop :=
 keep<=stem.length/\back=(stem.length-keep) % lp.length/\∀i,keep<=i->i<stem.length->stem.getD i 0=lp.getD ((i+(lp.length-stem.length % lp.length)) % lp.length) 0
theorem Sz (stem lp:List Int):Iw stem lp stem.length 0:=⟨Nat.le_refl _,by simp,λ i h1 h2=>by omega⟩
theorem Sv {stem lp:List Int}{keep back:Nat}(hl:0<lp.length)(h:Iw stem lp (keep+1) back)(he:stem.getD keep 0=lp.getD (lp.length-1-back) 0):Iw stem lp keep ((back+1) % lp.length):=by
 obtain⟨h1,h2,h3⟩:=h;refine⟨by omega,?_,λ i h4 h5=>?_⟩
 ·rw[h2,Nat.mod_add_mod,show stem.length-(keep+1)+1=stem.length-keep by omega]
 ·by_cases e:i=keep
  ·subst e
   rw[he]
   congr 1
   have hb:back<lp.length:=by rw[h2];exact Nat.mod_lt _ hl
   have d1:=Nat.mod_add_div (stem.length-(i+1)) lp.length;have d2:=Nat.mod_add_div stem.length lp.length;have d3:=Nat.mod_lt stem.length hl;rw[<-h2]at d1
   have key:(i+(lp.length-stem.length % lp.length))+lp.length*((stem.length-(i+1)) / lp.length)=(lp.length-1-back)+lp.length*(stem.length / lp.length):=by
    generalize lp.length*((stem.length-(i+1)) / lp.length)=Q at *
    generalize lp.length*(stem.length / lp.length)=R at *
    omega
   have k2:=congrArg (· % lp.length) key;simp only[Nat.add_mul_mod_self_left]at k2;rw[k2,Nat.mod_eq_of_lt (by omega)]
  ·exact h3 i (by omega) h5
theorem KT {W:iV}{p keep back:Nat}(hp:Hz W.loop p)(h:Iw W.stem (W.loop.take p) keep back)(i:Nat) :
  aP ⟨W.stem.take keep,jG (W.loop.take p) ((p-back) % p)⟩ i=aP W i:=by
 have hl:(W.loop.take p).length=p:=by rw[List.length_take];have:=hp.2.1;omega
 have hp0:=hp.1;obtain⟨h1,h2,h3⟩:=h;rw[hl]at h2 h3;have hk:(W.stem.take keep).length=keep:=by rw[List.length_take];omega
 have ht:(jG (W.loop.take p) ((p-back) % p)).length=p:=by
  rw[qH (by rw[hl];exact Nat.le_of_lt (Nat.mod_lt _ hp0)),hl]
 unfold aP;simp only[hk,ht]
 by_cases hi:i<keep
 ·rw[if_pos hi,if_pos (by omega)]
  simp only[List.getD_eq_getElem?_getD];rw[List.getElem?_take_of_lt hi]
 ·rw[if_neg hi]
  have e1:=JI (l:=W.loop.take p) (k:=(p-back) % p) (by rw[hl];exact Nat.mod_lt _ hp0) (i-keep);rw[hl]at e1;rw[e1,Nat.add_mod_mod];have hb:back<p:=by rw[h2];exact Nat.mod_lt _ hp0
  have d1:=Nat.mod_add_div (W.stem.length-keep) p;have d2:=Nat.mod_add_div W.stem.length p;have d3:=Nat.mod_lt W.stem.length hp0;rw[<-h2]at d1
  have key:(i-keep+(p-back)) % p=(i+(p-W.stem.length % p)) % p:=by
   have k1:(i-keep+(p-back))+p*(W.stem.length / p)=(i+(p-W.stem.length % p))+p*((W.stem.length-keep) / p):=by
    generalize p*((W.stem.length-keep) / p)=Q at *
    generalize p*(W.stem.length / p)=R at *
    omega
   have k2:=congrArg (· % p) k1;simpa only[Nat.add_mul_mod_self_left]using k2
  rw[key]
  by_cases hs:i<W.stem.length
  ·rw[if_pos hs,h3 i (by omega) hs]
  ·rw[if_neg hs,hp.all]
   congr 1
   have k1:(i+(p-W.stem.length % p))=(i-W.stem.length)+p*(W.stem.length / p+1):=by
    rw[Nat.mul_add,Nat.mul_one]
    generalize p*(W.stem.length / p)=R at *
    omega
   rw[k1,Nat.add_mul_mod_self_left]
theorem KA {W:iV}{n:Nat}(hn:n<=W.stem.length)(i:Nat):aP ⟨W.stem.drop n,W.loop⟩ i=aP W (n+i):=by
 unfold aP;simp only[List.length_drop]
 by_cases h:i<W.stem.length-n
 ·rw[if_pos h,if_pos (by omega)]
  simp only[List.getD_eq_getElem?_getD,List.getElem?_drop]
 ·rw[if_neg h,if_neg (by omega),show i-(W.stem.length-n)=n+i-W.stem.length by omega]
theorem LK {W:iV}{n:Nat}(hn:W.stem.length<n)(hL:0<W.loop.length)(i:Nat):aP ⟨[],jG W.loop ((n-W.stem.length) % W.loop.length)⟩ i=aP W (n+i):=by
 have hk:=Nat.mod_lt (n-W.stem.length) hL;unfold aP;simp only[List.length_nil,Nat.not_lt_zero,if_false,Nat.sub_zero,qH (Nat.le_of_lt hk)];rw[if_neg (by omega),JI hk,Nat.add_mod_mod,show i+(n-W.stem.length)=n+i-W.stem.length by omega]
theorem Nh {l:List Int}{m:Int}(h:∀i,i<l.length->0<=l.getD i 0/\l.getD i 0<m):dO l m=true:=by
 refine lY.2 λ i hi=>?_;unfold pV;have:=h i hi;simpa using this
open Go.RowKit Go.Shelf
theorem yu (A:Option Addr){n c k:Nat}(h:k<=c)(w:World):(Instr.slice 35 (.slice A n c) none (some (.int .i64 (k:Int))) none).run Tryz.prog w = .ok (.slice A k c) w:=by
 obtain⟨i0,hti,hz0,hz1,hz2⟩:=info_parts qR;have ht:Tryz.prog.underlying 35=some (.slice 3):=Tryz.underlying35;have ht':Tryz.prog.underlying 35=some (.slice (Tryz.prog.elem 35)):=by simp[Program.elem,ht]
 have he:Tryz.prog.elem 35=3:=by simp[Program.elem,ht]
 have hsz:∀w,(Go.sizeOf 3).run Tryz.prog w = .ok 1 w := λ w=>by simp[sizeOf,typeInfo,hti,hz1]
 rw[run_slice_h w 35 _ _ _ ht' .i64 _ (by omega) (by omega),he,hsz]
 cases A <;> simp[Result.andThen,sliced,Addr.add]
theorem rU (A:Option Addr){n c k:Nat}(h:k<=n)(w:World):(Instr.slice 35 (.slice A n c) (some (.int .i64 (k:Int))) none none).run Tryz.prog w = .ok (.slice (if c=k then A else A.map (·.add k)) (n-k) (c-k)) w:=by
 obtain⟨i0,hti,hz0,hz1,hz2⟩:=info_parts qR;have ht:Tryz.prog.underlying 35=some (.slice 3):=Tryz.underlying35;have ht':Tryz.prog.underlying 35=some (.slice (Tryz.prog.elem 35)):=by simp[Program.elem,ht]
 have he:Tryz.prog.elem 35=3:=by simp[Program.elem,ht]
 have hsz:∀w,(Go.sizeOf 3).run Tryz.prog w = .ok 1 w := λ w=>by simp[sizeOf,typeInfo,hti,hz1]
 rw[run_slice_l w 35 _ _ _ ht' .i64 _ (by omega) (by omega),he,hsz];simp[Result.andThen,sliced]
theorem Vl {D E:Dom}(p q:List Int)(A B:Option Addr)(c d n m:Nat)(w:World)(hn:n=p.length)(hm:m=q.length)(ha:jm w D A c p)(hb:jm w E B d q)(r:Bool)(hr:decide (p=q)=r) :
  Calls Tryz.prog 139 #[.slice A n c,.slice B m d] w λ e w'=>e = .returned (.bool r)/\Below w.heap.size w w':=by
 subst hn;have hla:=ha.len.1;have hlb:=hb.len.1;have HA:=hid ha;have HB:=hid hb;have HR:=hid hr;clear ha hb hr
 by_cases he:p.length=m
 rotate_left
 ·have hi:¬(p.length:Int)=(m:Int):=by omega
  obtain rfl:r=false:=by rw[<-HR.out];exact decide_eq_false λ e=>he (by rw[e,hm])
  clear he
  go_enter Tryz.func139,Tryz.ntmps139
  go_wp2_with fail
  go_ret
  exact⟨rfl,Below.refl _ _⟩
 have HQ:=hid (show q.length=p.length by omega);rw[<-he];clear he hm
 go_enter Tryz.func139,Tryz.ntmps139
 go_upto_region 4 with(fail)
 go_loopw [13] (λ t wr=>∃i:Nat,i<=p.length/\t = .int .i64 (i:Int)/\Below w.heap.size w wr/\Hid (∀k,k<i->p.getD k 0=q.getD k 0)) (λ t _=>p.length-(intOf t).toNat)
 case atStart=>exact⟨0,Nat.zero_le _,rfl,by first|exact Below.refl _ _|go_grown,λ j h=>absurd h (Nat.not_lt_zero _)⟩
 case round =>
  obtain⟨i,hi,rfl,hbl,iY⟩:=hrel;have bH:=hid hbl;clear hbl
  by_cases hlt:i<p.length
  ·have hii:(i:Int)<(p.length:Int):=by omega
   have dX:=hid hlt;have hlt2:i<q.length:=by rw[HQ.out];exact hlt
   have HPA:=(HA.out.any bH.out);have HPB:=(HB.out.any bH.out);obtain⟨b1,o1,x,rfl,_,hl1,HX,x0⟩:=HPA.get hlt;obtain⟨b2,o2,y,rfl,_,hl2,HY,y0⟩:=HPB.get hlt2;have mZ:=hid HX.out;have HYY:=hid HY.out;have hw1:IntKind.i64.wrap ((i:Int)+1)=(i:Int)+1:=IntWalk.i64_in _ (by omega);clear HX HY HPA HPB hlt hlt2;rw[HQ.out]at hlb;go_upto_region 6 with(fail)
   by_cases hxy:x=y
   ·subst hxy
    go_quiet (fail)
    all_goals
     go_wp2_with fail
     go_roundw
     case rel =>
      refine⟨i+1,by have:=dX.out;omega,by go_num,by first|exact bH.out|exact au bH.out (below_drewN (Below.refl _ _) _),λ j hj=>?_⟩
      by_cases e:j=i
      ·rw[e,mZ.out,HYY.out]
      ·exact iY.out j (by omega)
     case measure=>have:=dX.out;simp[intOf];omega
   ·obtain rfl:r=false:=by
     rw[<-HR.out];refine decide_eq_false λ e=>hxy ?_;rw[<-mZ.out,<-HYY.out,e]
    go_quiet (fail)
    all_goals
     go_wp2_with fail
     go_ret
     exact⟨rfl,by first|exact bH.out|exact au bH.out (below_drewN (Below.refl _ _) _)⟩
  ·have hii:¬(i:Int)<(p.length:Int):=by omega
   obtain rfl:r=true:=by
    rw[<-HR.out];refine decide_eq_true (List.ext_getElem HQ.out.symm λ k h1 h2=>?_);have:=iY.out k (by omega);simpa[List.getD,h1,h2]using this
   clear hlt;go_wp2_with fail
   go_ret
   exact⟨rfl,bH.out⟩
theorem clone_any {D:Dom}(zs:List Int)(A:Option Addr)(c n:Nat)(w:World)(hn:n=zs.length)(h:jm w D A c zs)(hb6:n<=1000000) :
  Calls Tryz.prog 117 #[.slice A n c] w λ e w'=>∃A' c',e = .returned (.slice A' n c')/\Below w.heap.size w w'/\jm w' (λ k=>w.heap.size<=k) A' c' zs:=by
 have hl:=h.len
 have hz:A=none->zs = [] := λ e=>by
  rcases Nat.eq_zero_or_pos zs.length with h0|h0
  ·exact List.eq_nil_of_length_eq_zero h0
  ·obtain⟨_,_,h1,_⟩:=h.ptr h0
   rw[e]at h1;cases h1
 subst hn;have HH:=hid h.old;clear h;obtain⟨i0,hti,hz0,hz1,hz2⟩:=info_parts qR
 go_enter Tryz.func117,Tryz.ntmps117
 rcases A with _|ad
 ·obtain rfl:=hz rfl
  have he0:∀w:World,(binOp .eql 35 (.slice none 0 c) (.slice none 0 0)).run Tryz.prog w = .ok (.bool true) w := λ _=>rfl;go_wp2_with fail
  go_ret
  exact⟨none,0,rfl,Below.refl _ _,jm.nil _ _ _ (by omega)⟩
 ·clear hz
  have he0:∀w:World,(binOp .eql 35 (.slice (some ad) zs.length c) (.slice none 0 0)).run Tryz.prog w = .ok (.bool false) w := λ _=>rfl;go_upto_region 3 with(fail)
  have hwl:w.heap.size<=w.heap.size:=Nat.le_refl _;go_wp2_with (at_builtin;go_must (refine iK _ rfl (.tmp 5) (.tmp 6) 35 rfl w.heap.size 3 i0 _ 1 8 Tryz.underlying35 hti hz0 hz1 hz2 rfl (by omega) (.slice (some ⟨w.heap.size,0,none⟩) 0 0) 0 [] rfl (World.ownsRow_lit w #[] 0 (Nat.le_refl _) (Nat.zero_le _) (by simp)) _ (some ad) zs.length c _ rfl (HH.out.keep ((Keeps.refl _ w).alloc _)) (FY _) (by omega) (dJ (by omega)) (by simp) ?_);intro A' c' w2 hown hgrow hat)
  go_ret
  rw[Nat.zero_add]at *
  refine⟨A',c',rfl,((Below.refl w.heap.size w).alloc (Nat.le_refl _) _).grown hgrow (by simp) (by simp[Value.ownBlock]),?_⟩;have:=Rd.own hown (D := λ b=>w.heap.size<=b) (by omega) (λ g hg=>hg);unfold jm;simpa using this
theorem Tn {α : Type}(Z X1 X2:List α)(h:Z.length=X1.length+X2.length):splice (splice Z 0 X1) X1.length X2=X1++X2:=by
 unfold splice;simp[h]
theorem G6 {D:Dom}(l:List Int)(A:Option Addr)(c n k:Nat)(w:World)(hn:n=l.length)(h:jm w D A c l)(hk:k<l.length)(hb6:n<=1000000) :
  Calls Tryz.prog 79 #[.slice A n c,.int .i64 (k:Int)] w λ e w'=>∃A',e = .returned (.slice A' n n)/\Below w.heap.size w w'/\jm w' (λ k=>w.heap.size<=k) A' n (jG l k):=by
 have hl:=h.len;obtain⟨b,o,rfl,_,hbl,hcell⟩:=h.ptr (show 0<l.length by omega);have HC:=hid hcell;have HN:=hid hn;have HK:=hid hk;have qgg:b<w.heap.size:=hbl;obtain⟨i0,hti,hz0,hz1,hz2⟩:=info_parts qR
 have mk1:∀W,(Instr.makeSlice 35 (.int .i64 (n:Int)) (.int .i64 (n:Int))).run Tryz.prog W = .ok (.slice (some ⟨W.heap.size,0,none⟩) n n) (W.alloc (He (.int .i64 0) n 3)) := λ W =>
  oN _ _ _ _ 8 Tryz.underlying35 hti hz0 hz1 hz2 rfl _ _ _ (by omega) (by omega) W
 obtain⟨m1,hm1⟩:∃m,n-k=m:=⟨_,rfl⟩;obtain⟨c1,hc1⟩:∃m,c-k=m:=⟨_,rfl⟩
 have hsl1:∀W,(Instr.slice 35 (.slice (some ⟨b,o,none⟩) n c) (some (.int .i64 (k:Int))) none none).run Tryz.prog W = .ok (.slice (some ⟨b,o+k,none⟩) m1 c1) W := λ W=>by
  rw[rU (some ⟨b,o,none⟩) (n:=n) (c:=c) (k:=k) (by omega) W,if_neg (by omega),hm1,hc1]
  have e:(⟨b,o,none⟩:Addr).add k=⟨b,o+k,none⟩:=by
   unfold Addr.add
   by_cases h0:k=0 <;> simp[h0]
  simp[e]
 have hsl2:∀W,(Instr.slice 35 (.slice (some ⟨b,o,none⟩) n c) none (some (.int .i64 (k:Int))) none).run Tryz.prog W = .ok (.slice (some ⟨b,o,none⟩) k c) W := λ W=>yu _ (by omega) W;obtain⟨X1,hX1⟩:∃X,X=(l.drop k).map (Value.int .i64):=⟨_,rfl⟩;obtain⟨X2,hX2⟩:∃X,X=(l.take k).map (Value.int .i64):=⟨_,rfl⟩;obtain⟨Z,hZ⟩:∃Z,Z=List.replicate n (Value.int .i64 0):=⟨_,rfl⟩;have uK:=hid hX1;have Ho:=hid hX2;have HZ:=hid hZ;have XK:=hid (show X1.length=m1 by rw[hX1,List.length_map,List.length_drop];omega);have HL2:=hid (show X2.length=k by rw[hX2,List.length_map,List.length_take];omega);have UL:=hid (show Z.length=n by rw[hZ,List.length_replicate]);have HM:=hid (show m1+k=n by omega)
 have HS1:=hid (show∀j v,X1[j]?=some v->w.cell? ⟨b,o+k+j,none⟩=some v from λ j v hv=>by
  rw[hX1,List.getElem?_map,List.getElem?_drop]at hv
  have hj:k+j<l.length:=by
   rcases Nat.lt_or_ge (k+j) l.length with h1|h1
   ·exact h1
   ·rw[List.getElem?_eq_none h1]at hv;cases hv
  have h2:=hcell (k+j) hj;rw[List.getElem?_eq_getElem hj,Option.map_some,Option.some.injEq]at hv;have e:l.getD (k+j) 0=l[k+j]:=by simp[List.getD,hj]
  rw[<-hv,<-e,Nat.add_assoc];exact h2)
 have HS2:=hid (show∀j v,X2[j]?=some v->w.cell? ⟨b,o+j,none⟩=some v from λ j v hv=>by
  rw[hX2,List.getElem?_map]at hv
  have hj:j<k:=by
   rcases Nat.lt_or_ge j k with h1|h1
   ·exact h1
   ·rw[List.getElem?_eq_none (by rw[List.length_take];omega)]at hv;cases hv
  rw[List.getElem?_take_of_lt hj]at hv;have hj2:j<l.length:=by omega
  have h2:=hcell j hj2;rw[List.getElem?_eq_getElem hj2,Option.map_some,Option.some.injEq]at hv;have e:l.getD j 0=l[j]:=by simp[List.getD,hj2]
  rw[<-hv,<-e];exact h2)
 have hadd:∀b o j:Nat,(⟨b,o,none⟩:Addr).add j=⟨b,o+j,none⟩ := λ b o j=>by
  unfold Addr.add
  by_cases h0:j=0 <;> simp[h0]
 have qcO:=hid hadd;have HO1:=hid (show∀u∈X1,u.oneCell'=true by rw[hX1];exact FY _);have Dl:=hid (show∀u∈X2,u.oneCell'=true by rw[hX2];exact FY _);have HH:=hid hl;clear h hcell hn hk hm1 hc1 hX1 hX2 hZ hadd hl hti hz0 hz1 hz2 hbl hb6
 go_enter Tryz.func79,Tryz.ntmps79
 go_upto_region 2 with(fail)
 refine aC λ U hU=>?_;have HB:=hid (show Below w.heap.size w U by rw[hU];go_grown)
 have HG:=hid (show U.heap[w.heap.size]?=some (.cells Z.toArray 3 (0,0))by
  rw[hU,HZ.out];have e:(List.replicate n (Value.int .i64 0)).toArray=Array.replicate n (Value.int .i64 0):=by simp
  rw[e]
  exact at_new _ _ _ rfl)
 clear hU mk1;have ht:=Tryz.underlying35;go_upto_region 3 with((with_reducible show wpList _ _ _ _ _ _);refine wpList_copy_splice (o:=⟨some 14,_,_,_,_,_⟩) rfl (.tmp 10) (.tmp 13) 35 35 rfl 3 Tryz.underlying35 (by kernel_rfl) (some ⟨w.heap.size,0,none⟩) (some ⟨b,o+k,none⟩) n n m1 c1 rfl rfl w.heap.size 0 Z 3 HG.out X1 (by rw[XK.out];have:=HM.out;exact(Nat.min_eq_left (by omega)).symm) (λ _=>⟨rfl,⟨b,o+k,none⟩,rfl,λ j v hv=>by rw[qcO.out];exact(HB.out.cell qgg).trans (HS1.out j v hv)⟩) (by rw[XK.out,UL.out];have:=HM.out;omega) HO1.out w.heap.size w HB.out (Nat.le_refl _) ?_;intro w2 HG2 hb2)
 rw[XK.out];have HB2:=hid hb2;clear hb2 HB HG;have HGS:=hid (show w2.heap[w.heap.size]?=some (.cells (splice Z 0 X1).toArray 3 (0,0))from HG2.out);obtain⟨P5,Xq⟩:∃P,(if n=m1 then some (⟨w.heap.size,0,none⟩:Addr)else(some ⟨w.heap.size,0,none⟩:Option Addr).map (·.add m1))=P:=⟨_,rfl⟩
 have HP5:=hid (show 0<k->P5=some ⟨w.heap.size,m1,none⟩from λ h0=>by
  rw[<-Xq,if_neg (by have:=HM.out;omega)]
  simp[qcO.out])
 have hsl3:∀W,(Instr.slice 35 (.slice (some ⟨w.heap.size,0,none⟩) n n) (some (.int .i64 (m1:Int))) none none).run Tryz.prog W = .ok (.slice P5 k k) W := λ W=>by
  rw[rU (some ⟨w.heap.size,0,none⟩) (n:=n) (c:=n) (k:=m1) (by have:=HM.out;omega) W,Xq,show n-m1=k by have:=HM.out;omega]
 clear Xq;obtain⟨Y,hY⟩:∃Y,Y=splice Z 0 X1:=⟨_,rfl⟩;rw[<-hY]at HGS;have HYY:=hid hY;have HYL:=hid (show Y.length=n by rw[hY,length_splice _ _ _ (by rw[XK.out,UL.out];have:=HM.out;omega),UL.out]);clear hY HG2
 go_region_law (refine step_copy_splice rfl (.tmp 17) (.tmp 20) 35 35 rfl 3 Tryz.underlying35 (by kernel_rfl) P5 (some ⟨b,o,none⟩) k k k c rfl rfl w.heap.size m1 Y 3 (by first|exact HGS.out|exact(by simpa using HGS.out)) X2 (by rw[HL2.out];exact(Nat.min_self k).symm) (λ h0=>⟨HP5.out (by rw[HL2.out]at h0;exact h0),⟨b,o,none⟩,rfl,λ j v hv=>by rw[qcO.out];exact((HB2.out.cell qgg).trans (HS2.out j v hv))⟩) (by rw[HL2.out,HYL.out];have:=HM.out;omega) Dl.out w.heap.size w (by first|exact HB2.out|exact HB2.out.drew|exact below_drewN HB2.out _) (Nat.le_refl _) ?_;intro w4 hg4 hb4)
 have HG4:=hid (show w4.heap[w.heap.size]?=some (.cells (X1++X2).toArray 3 (0,0))by
  have h1:=hg4.out;rw[HYY.out]at h1
  have h2:splice (splice Z 0 X1) m1 X2=X1++X2:=by
   have h3:=Tn Z X1 X2 (by rw[UL.out,XK.out,HL2.out,HM.out]);rw[XK.out]at h3;exact h3
  rw[h2]at h1
  exact h1)
 have HB4:=hid hb4;clear hg4 hb4;go_wp2_with fail
 go_ret
 have hX:X1++X2=(jG l k).map (Value.int .i64):=by
  unfold jG;rw[List.map_append,uK.out,Ho.out]
 have h1:=HG4.out;rw[hX]at h1;have hlt:(jG l k).length=n:=by rw[qH (Nat.le_of_lt HK.out),HN.out]
 refine⟨some ⟨w.heap.size,0,none⟩,rfl,HB4.out,?_⟩;unfold jm;refine⟨⟨by rw[List.length_map,Nat.mul_one],by have:=HH.out.1;have:=HN.out;omega,by omega,by have:=HH.out;have:=HN.out;omega⟩,λ _=>⟨w.heap.size,0,rfl,Nat.le_refl _,lt_of_block h1,λ j u hu=>?_⟩⟩;rw[Nat.zero_add];exact aj h1 (by simpa using hu)
theorem qes {l:List Int}{p:Nat}(h0:0<p)(h1:p<=l.length)(h2:l.length % p=0)(h:l.drop p=l.take (l.length-p)):Hz l p:=by
 refine⟨h0,h1,h2,λ i hi=>?_⟩;have h3:(l.drop p).getD i 0=(l.take (l.length-p)).getD i 0:=by rw[h]
 simp only[List.getD_eq_getElem?_getD,List.getElem?_drop]at h3⊢;rw[List.getElem?_take_of_lt (by omega)]at h3;rw[Nat.add_comm i p];exact h3
theorem qbT {l:List Int}(h:0<l.length):Hz l l.length:=⟨h,Nat.le_refl _,Nat.mod_self _,λ i hi=>by omega⟩
theorem SG {D:Dom}(l:List Int)(A:Option Addr)(c n:Nat)(w:World)(hn:n=l.length)(h:jm w D A c l)(h0:0<n)(h6:n<=1000000) :
  Calls Tryz.prog 116 #[.slice A n c] w λ e w'=>∃p:Nat,e = .returned (.int .i64 (p:Int))/\Hz l p/\Below w.heap.size w w':=by
 have hl:=h.len;have HN:=hid hn;have HH:=hid h.old;have HL:=hid hl;clear h hn hl
 go_enter Tryz.func116,Tryz.ntmps116
 go_upto_region 2 with(fail)
 go_loopw [3] (λ t wr=>∃i:Nat,1<=i/\i<=n/\t = .int .i64 (i:Int)/\Below w.heap.size w wr) (λ t _=>n-(intOf t).toNat)
 case atStart=>exact⟨1,Nat.le_refl _,by omega,rfl,by first|exact Below.refl _ _|go_grown⟩
 case round =>
  obtain⟨i,hi1,hi,rfl,hbl⟩:=hrel;have bH:=hid hbl;have HI1:=hid hi1;clear hbl
  by_cases hlt:i<n
  ·have hii:(i:Int)<(n:Int):=by omega
   have hi0:¬(i:Int)=0:=by omega
   have hi00:¬i=0:=by omega
   have dX:=hid hlt;obtain⟨m,hm⟩:∃m,n % i=m:=⟨_,rfl⟩;have HM:=hid hm;have hml:m<i:=by rw[<-hm];exact Nat.mod_lt _ (by omega)
   have htm:(n:Int).tmod (i:Int)=(m:Int):=by
    rw[Int.tmod_eq_emod_of_nonneg (by omega),<-hm];exact(Int.natCast_emod n i).symm
   have hwm:IntKind.i64.wrap (m:Int)=(m:Int):=IntWalk.i64_in _ (by omega);have hw1:IntKind.i64.wrap ((i:Int)+1)=(i:Int)+1:=IntWalk.i64_in _ (by omega);obtain⟨k,hk⟩:∃k,n-i=k:=⟨_,rfl⟩;have hwk:IntKind.i64.wrap ((n:Int)-(i:Int))=(k:Int):=by rw[IntWalk.i64_in _ (by omega)];omega
   have HK:=hid hk;clear hlt hi;go_upto_region 4 with(fail)
   have HI0:=hid (Below.refl wr.heap.size wr);have HI2:=hid (show∀i,Below wr.heap.size wr (wr.drewN i)from λ i=>below_drewN (Below.refl wr.heap.size wr) i);have qdg:=hid (show Below wr.heap.size wr wr.drew from(Below.refl wr.heap.size wr).drew)
   rcases Nat.eq_zero_or_pos m with hm0|hm0
   ·subst hm0
    replace htm:(n:Int).tmod (i:Int)=0:=htm;replace hwm:IntKind.i64.wrap 0=0:=hwm;obtain⟨r,hr⟩:∃r,decide (l.drop i=l.take k)=r:=⟨_,rfl⟩;have HR:=hid hr;obtain⟨A1,hA1⟩:∃B,(if c=i then A else A.map (·.add i))=B:=⟨_,rfl⟩;obtain⟨c1,hc1⟩:∃m,c-i=m:=⟨_,rfl⟩
    have hsl1:∀W,(Instr.slice 35 (.slice A n c) (some (.int .i64 (i:Int))) none none).run Tryz.prog W = .ok (.slice A1 k c1) W := λ W=>by
     rw[rU A (n:=n) (c:=c) (k:=i) (by have:=dX.out;omega) W,hA1,hc1,hk]
    have hsl2:∀W,(Instr.slice 35 (.slice A n c) none (some (.int .i64 (k:Int))) none).run Tryz.prog W = .ok (.slice A k c) W := λ W=>yu A (by have:=HL.out;have:=HN.out;omega) W
    have zQ:Hid (∀W:World,Below wr.heap.size wr W->Calls Tryz.prog 139 #[.slice A1 k c1,.slice A k c] W λ e w'=>e = .returned (.bool r)/\Below wr.heap.size wr w'):=hid λ W hb=>by
     have hx:=HH.out.any (au bH.out hb);have hle:i<=l.length:=by have:=dX.out;have:=HN.out;omega
     have h1:=hx.cut hle;rw[hA1,hc1]at h1;refine(Vl (l.drop i) (l.take k) A1 A c1 c k k W (by rw[List.length_drop];have:=HN.out;omega) (by rw[List.length_take];have:=HN.out;omega) h1 (hx.take (by have:=HN.out;omega)) r HR.out).mono ?_;rintro e w' ⟨rfl,hb'⟩;exact⟨rfl,au hb hb'⟩
    clear hr hA1 hc1 hk;cases r
    ·go_region_held3 (λ W':World=>True)
      (first|trivial|(go_keep;done))
      (first|(go_at_call 139;(with_reducible refine(zQ.out _ (by first|exact HI0.out|exact qdg.out|exact HI2.out _)).mono ?_);rintro e W9 ⟨rfl,hI⟩))
     all_goals
      have HI:=hid hI;clear hI;go_wp2_with fail
      go_roundw
      case rel=>exact⟨i+1,by omega,by have:=dX.out;omega,by go_num,au bH.out HI.out⟩
      case measure=>have:=dX.out;simp[intOf];omega
    ·go_region_held3 (λ W':World=>True)
      (first|trivial|(go_keep;done))
      (first|(go_at_call 139;(with_reducible refine(zQ.out _ (by first|exact HI0.out|exact qdg.out|exact HI2.out _)).mono ?_);rintro e W9 ⟨rfl,hI⟩))
     all_goals
      have HI:=hid hI;clear hI;go_wp2_with fail
      go_ret
      exact⟨i,rfl,qes HI1.out (by have:=dX.out;have:=HN.out;omega) (by rw[<-HN.out];exact HM.out) (by rw[<-HN.out,HK.out];exact of_decide_eq_true HR.out),au bH.out HI.out⟩
   ·have hm1:¬(m:Int)=0:=by omega
    have hm2:¬m=0:=by omega
    have hm3:((m:Int)==0)=false:=beq_false_of_ne hm1;refine wp_region_held_drew (S := λ _:World=>True) (by kernel_rfl) trivial (λ hHeld=>?_);refine dS 0 ?_ rfl (by kernel_rfl) (λ _ _ _ h=>h) ?_ (by assumption) ?_
    rotate_left
    ·intro w hSw;(try dsimp only at hSw);go_simp;(try(with_reducible rfl))
    try simp only[Act.put,bn,bC,bD]
    refine dS 1 ?_ rfl (by kernel_rfl) (λ _ _ _ h=>h) ?_ (by assumption) ?_
    rotate_left
    ·intro w hSw;(try dsimp only at hSw);go_simp;(try(with_reducible rfl))
    try simp only[Act.put,bn,bC,bD]
    refine dS 2 ?_ rfl (by kernel_rfl) (λ _ _ _ h=>h) ?_ (by assumption) ?_
    rotate_left
    ·intro w hSw;(try dsimp only at hSw);go_simp;(try(with_reducible rfl))
    try simp only[Act.put,bn,bC,bD]
    refine dS 3 ?_ rfl (by kernel_rfl) (λ _ _ _ h=>h) ?_ (by assumption) ?_
    rotate_left
    ·intro w hSw;(try dsimp only at hSw);go_simp;(try(with_reducible rfl))
    try simp only[Act.put,bn,bC,bD]
    refine dS 4 ?_ rfl (by kernel_rfl) (λ _ _ _ h=>h) ?_ (by assumption) ?_
    rotate_left
    ·intro w hSw;(try dsimp only at hSw);go_simp;(try(with_reducible rfl))
    try simp only[Act.put,bn,bC,bD]
    refine dS 5 ?_ rfl (by kernel_rfl) (λ _ _ _ h=>h) ?_ (by assumption) ?_
    rotate_left
    ·intro w hSw;(try dsimp only at hSw);go_simp;(try(with_reducible rfl))
    try simp only[Act.put,bn,bC,bD]
    refine kM 6 rfl (by kernel_rfl) (λ _ _ _ h=>h) (by assumption) ?_;refine kM 7 rfl (by kernel_rfl) (λ _ _ _ h=>h) (by assumption) ?_;refine kM 8 rfl (by kernel_rfl) (λ _ _ _ h=>h) (by assumption) ?_;refine kM 9 rfl (by kernel_rfl) (λ _ _ _ h=>h) (by assumption) ?_;refine kM 10 rfl (by kernel_rfl) (λ _ _ _ h=>h) (by assumption) ?_;refine kM 11 rfl (by kernel_rfl) (λ _ _ _ h=>h) (by assumption) ?_;refine kM 12 rfl (by kernel_rfl) (λ _ _ _ h=>h) (by assumption) ?_;refine kM 13 rfl (by kernel_rfl) (λ _ _ _ h=>h) (by assumption) ?_;refine kM 14 rfl (by kernel_rfl) (λ _ _ _ h=>h) (by assumption) ?_;refine kM 15 rfl (by kernel_rfl) (λ _ _ _ h=>h) (by assumption) ?_
    try simp only[Act.put,bn,bC,bD]
    refine lK 16 (by kernel_rfl) rfl λ K hK=>?_
    go_simp
    refine hK.out _ _ ?_ (λ hHeld=>?_)
    ·trivial
    clear hK K
    try simp only[Act.put,bn,bC,bD]
    refine wpAnyH_done (by kernel_rfl) ?_ _;go_wp2_with fail
    go_roundw
    case rel=>exact⟨i+1,by omega,by have:=dX.out;omega,by go_num,au bH.out qdg.out⟩
    case measure=>have:=dX.out;simp[intOf];omega
  ·have hii:¬(i:Int)<(n:Int):=by omega
   clear hlt;go_wp2_with fail
   go_ret
   exact⟨n,rfl,by rw[HN.out];exact qbT (by have:=HN.out;omega),bH.out⟩
section
variable {w:World}{b:Nat}{W W':iV}{As Al As' Al':Option Addr}{cs cl cs' cl':Nat}
theorem gQ.free (h:gQ w b W As cs Al cl)(i:Nat):w.frozen? ⟨b,i,none⟩=false:=aA h
theorem OT (h:gQ w b W As cs Al cl):gQ ((w.setCell ⟨b,0,none⟩ (.slice As' W'.stem.length cs')).setCell ⟨b,1,none⟩ (.slice Al' W'.loop.length cl')) b W' As' cs' Al' cl':=by
 unfold gQ at h⊢;rw[aB (aB h _) _];rfl
theorem Bl (v0 v1:Value):aH (λ x=>x=b) w ((w.setCell ⟨b,0,none⟩ v0).setCell ⟨b,1,none⟩ v1) :=
 ((aH.refl (λ x=>x=b) w).set ⟨b,_,none⟩ _ λ _=>rfl).set ⟨b,_,none⟩ _ λ _=>rfl
end
def MO (W W':iV):Prop:=0<W'.loop.length/\W'.loop.length<=W.loop.length/\W'.stem.length<=W.stem.length/\∀t,aP W' t=aP W t
theorem Wq {W:iV}{p keep back:Nat}(hp:Hz W.loop p)(h:Iw W.stem (W.loop.take p) keep back):MO W ⟨W.stem.take keep,jG (W.loop.take p) ((p-back) % p)⟩:=by
 have h0:=hp.1;have h1:=hp.2.1;have hl:(W.loop.take p).length=p:=by rw[List.length_take];omega
 have hm:=Nat.mod_lt (p-back) h0;have ht:(jG (W.loop.take p) ((p-back) % p)).length=p:=by rw[qH (by rw[hl];exact Nat.le_of_lt hm),hl]
 refine⟨?_,?_,?_,KT hp h⟩
 ·show 0<(jG (W.loop.take p) ((p-back) % p)).length
  omega
 ·show(jG (W.loop.take p) ((p-back) % p)).length<=_
  omega
 ·show(W.stem.take keep).length<=_
  rw[List.length_take];omega
theorem SA {D:Dom}(W:iV)(v:Value)(w:World)(h:yT w D v W)(h0:0<W.loop.length)(h1:W.stem.length<=1000)(h2:W.loop.length<=1000) :
  Calls Tryz.prog 78 #[v] w λ e w'=>∃u W',e = .returned u/\yT w' (λ k=>w.heap.size<=k) u W'/\MO W W'/\Below w.heap.size w w':=by
 obtain⟨As,cs,Al,cl,rfl,hs,hl⟩:=h;obtain⟨sn,hsn⟩:∃n,W.stem.length=n:=⟨_,rfl⟩;obtain⟨ln,hln⟩:∃n,W.loop.length=n:=⟨_,rfl⟩;have rO:=hid hsn;have EP:=hid hln;have hcs:=hs.len.2.1;have hcl:=hl.len.2.1;rw[hsn]at h1 hcs⊢;rw[hln]at h0 h2 hcl⊢;have H0:=hid (And.intro h0 (And.intro h1 (And.intro h2 (And.intro hcs hcl))));have HS:=hid hs.old;have HL:=hid hl.old;clear hs hl hsn hln h0 h1 h2 hcs hcl
 go_enter Tryz.func78,Tryz.ntmps78
 go_upto_region 1 with(fail)
 refine aC λ U hU=>?_;have HB:=hid (show Below w.heap.size w U by rw[hU];go_grown);have mW:=hid (show gQ U w.heap.size W As cs Al cl by show U.heap[_]?=_;rw[rO.out,EP.out,hU,aQ _ _ _ (by simp)];exact at_new _ _ _ rfl);have kG:=hid (show gQ U (w.heap.size+1) ⟨[],[]⟩ none 0 none 0 by show U.heap[_]?=_;rw[hU];exact at_new _ _ _ (by simp));clear hU
 have aI:Hid (∀X:World,Below U.heap.size U X->X.cell? ⟨w.heap.size,0,none⟩=some (.slice As sn cs)/\X.cell? ⟨w.heap.size,1,none⟩=some (.slice Al ln cl)):=hid λ X hb=>by
  have h:=(mW.out.below hb).cells;rw[rO.out,EP.out]at h;exact⟨h.1,h.2.1⟩
 have bH:=hid (show w.heap.size<U.heap.size from mW.out.cells.2.2)
 have XT:Hid (∀X:World,Below U.heap.size U X->Calls Tryz.prog 116 #[.slice Al ln cl] X λ e w'=>∃p:Nat,e = .returned (.int .i64 (p:Int))/\Hid (Hz W.loop p)/\Below U.heap.size U w'):=hid λ X hb=>by
  refine(SG W.loop Al cl ln X EP.out.symm (HL.out.any (au HB.out hb)) (by have:=H0.out;omega) (by have:=H0.out;omega)).mono ?_;rintro e w' ⟨p,rfl,hp,hb'⟩;exact⟨p,rfl,hp,au hb hb'⟩
 have HI0:=hid (Below.refl U.heap.size U);have HI1:=hid (show Below U.heap.size U U.drew from(Below.refl U.heap.size U).drew);have HI2:=hid (show∀i,Below U.heap.size U (U.drewN i)from λ i=>below_drewN (Below.refl U.heap.size U) i);obtain⟨s0,s1⟩:=aI.out U (Below.refl _ _);have zb:=bH.out
 go_region_held3 (λ X:World=>X.cell? ⟨w.heap.size,0,none⟩=some (.slice As sn cs)/\X.cell? ⟨w.heap.size,1,none⟩=some (.slice Al ln cl))
  (first|(with_reducible exact aI.out _ hI)|(go_keep;done))
  (first|(go_at_call 116;(with_reducible refine(XT.out _ (by first|exact HI0.out|exact HI1.out|exact HI2.out _)).mono ?_);rintro e W1 ⟨p,rfl,HP,hI⟩;have hsl := λ X=>yu Al (n:=ln) (c:=cl) (k:=p) (by have:=HP.out.2.1;have:=H0.out;have:=EP.out;omega) X))
 clear s0 s1 zb hsl;have HI:=hid hI;clear hI
 have zU:=hid (show 0<p/\p<=ln/\ln<=1000/\sn<=1000/\p<=cl/\sn<=cs by
  have h1:=HP.out.1;have h2:=HP.out.2.1;rw[EP.out]at h2
  have:=H0.out;omega)
 have aT:=hid (au HB.out HI.out);have kH:=hid (show(W.loop.take p).length=p by rw[List.length_take];have:=zU.out;have:=EP.out;omega);go_upto_region 3 with(fail)
 obtain⟨s0,s1⟩:=aI.out W1 HI.out;go_upto_region 4 with(fail)
 go_loopw [5,6] (λ q r wr=>∃keep back:Nat,Hid (Iw W.stem (W.loop.take p) keep back)/\q = .int .i64 (keep:Int)/\r = .int .i64 (back:Int)/\Below W1.heap.size W1 wr) (λ q _ _=>(intOf q).toNat)
 case atStart=>exact⟨sn,0,by have:=Sz W.stem (W.loop.take p);rw[rO.out]at this;exact this,rfl,rfl,by first|exact Below.refl _ _|go_grown⟩
 case round =>
  obtain⟨keep,back,HNI,rfl,rfl,hbl⟩:=hrel;clear s0 s1;have Xm:=hid (au HI.out hbl);have Qm:=hid (au aT.out hbl);have vO:=hid hbl;clear hbl
  have lW:=hid (show keep<=sn/\back<p by
   have h1:=HNI.out.1;have h2:=HNI.out.2.1;rw[kH.out]at h2;rw[rO.out]at h1
   exact⟨h1,by rw[h2];exact Nat.mod_lt _ zU.out.1⟩)
  obtain⟨s0,s1⟩:=aI.out wr Xm.out;have zb:w.heap.size<wr.heap.size:=Nat.lt_of_lt_of_le bH.out Xm.out.size;have qe5:Hid (∀a:Act,a.tmps=a.tmps->True):=hid λ _ _=>trivial;obtain⟨k2,hk2⟩:∃k,(p-back) % p=k:=⟨_,rfl⟩;have zT:=hid hk2;clear hk2
  have Md:Hid (∀X:World,Below wr.heap.size wr X->Calls Tryz.prog 117 #[.slice As keep cs] X λ e w'=>(∃A c,e = .returned (.slice A keep c)/\Hid (jm w' (λ k=>wr.heap.size<=k) A c (W.stem.take keep)))/\Below X.heap.size X w'):=hid λ X hb=>by
   have h1:=(HS.out.any (au Qm.out hb)).take (k:=keep) (by have:=lW.out;have:=rO.out;omega);refine(clone_any (W.stem.take keep) As cs keep X (by rw[List.length_take];have:=lW.out;have:=rO.out;omega) h1 (by have:=lW.out;have:=zU.out;omega)).mono ?_;rintro e w' ⟨A,c,rfl,hb',h⟩;exact⟨⟨A,c,rfl,h.mono λ k hk _=>Nat.le_trans hb.size hk⟩,hb'⟩
  have HTU:Hid (∀X:World,Below wr.heap.size wr X->Calls Tryz.prog 79 #[.slice Al p cl,.int .i64 (k2:Int)] X λ e w'=>(∃A,e = .returned (.slice A p p)/\Hid (jm w' (λ k=>wr.heap.size<=k) A p (jG (W.loop.take p) k2)))/\Below X.heap.size X w'):=hid λ X hb=>by
   have h1:=(HL.out.any (au Qm.out hb)).take (k:=p) (by have:=zU.out;have:=EP.out;omega);refine(G6 (W.loop.take p) Al cl p k2 X kH.out.symm h1 (by rw[kH.out,<-zT.out];exact Nat.mod_lt _ zU.out.1) (by have:=zU.out;omega)).mono ?_;rintro e w' ⟨A,rfl,hb',h⟩;exact⟨⟨A,rfl,h.mono λ k hk _=>Nat.le_trans hb.size hk⟩,hb'⟩
  clear qe5
  rcases Nat.eq_zero_or_pos keep with hk|hk
  case' inl =>
   have hgt:¬(0:Int)<(keep:Int):=by omega
   have hgt2:decide (0<keep)=false:=decide_eq_false (by omega);clear hk;go_upto_region 4 with(fail)
   refine wp_region_held_drew (S := λ X:World=>X.cell? ⟨w.heap.size,0,none⟩=some (.slice As sn cs)/\X.cell? ⟨w.heap.size,1,none⟩=some (.slice Al ln cl)) (by kernel_rfl) ⟨s0,s1⟩ (λ hHeld=>?_);refine dS 0 ?_ rfl (by kernel_rfl) (λ _ _ _ h=>h) ?_ (by assumption) ?_
   rotate_left
   ·intro w hSw;(try dsimp only at hSw);obtain⟨s0,s1⟩:=hSw;go_simp;(try(with_reducible rfl))
   try simp only[Act.put,bn,bC,bD]
   refine dS 1 ?_ rfl (by kernel_rfl) (λ _ _ _ h=>h) ?_ (by assumption) ?_
   rotate_left
   ·intro w hSw;(try dsimp only at hSw);obtain⟨s0,s1⟩:=hSw;go_simp;(try(with_reducible rfl))
   try simp only[Act.put,bn,bC,bD]
   refine dS 2 ?_ rfl (by kernel_rfl) (λ _ _ _ h=>h) ?_ (by assumption) ?_
   rotate_left
   ·intro w hSw;(try dsimp only at hSw);obtain⟨s0,s1⟩:=hSw;go_simp;(try(with_reducible rfl))
   try simp only[Act.put,bn,bC,bD]
   refine kM 3 rfl (by kernel_rfl) (λ _ _ _ h=>h) (by assumption) ?_;refine kM 4 rfl (by kernel_rfl) (λ _ _ _ h=>h) (by assumption) ?_;refine kM 5 rfl (by kernel_rfl) (λ _ _ _ h=>h) (by assumption) ?_;refine kM 6 rfl (by kernel_rfl) (λ _ _ _ h=>h) (by assumption) ?_;refine kM 7 rfl (by kernel_rfl) (λ _ _ _ h=>h) (by assumption) ?_;refine kM 8 rfl (by kernel_rfl) (λ _ _ _ h=>h) (by assumption) ?_;refine kM 9 rfl (by kernel_rfl) (λ _ _ _ h=>h) (by assumption) ?_;refine kM 10 rfl (by kernel_rfl) (λ _ _ _ h=>h) (by assumption) ?_;refine kM 11 rfl (by kernel_rfl) (λ _ _ _ h=>h) (by assumption) ?_;refine kM 12 rfl (by kernel_rfl) (λ _ _ _ h=>h) (by assumption) ?_
   refine kM 13 rfl (by kernel_rfl) (λ _ _ _ h=>h) (by assumption) ?_;refine kM 14 rfl (by kernel_rfl) (λ _ _ _ h=>h) (by assumption) ?_;refine kM 15 rfl (by kernel_rfl) (λ _ _ _ h=>h) (by assumption) ?_;refine kM 16 rfl (by kernel_rfl) (λ _ _ _ h=>h) (by assumption) ?_
   try simp only[Act.put,bn,bC,bD]
   refine lK 17 (by kernel_rfl) rfl λ K hK=>?_
   go_simp
   refine hK.out _ _ ?_ (λ hHeld=>?_)
   ·exact⟨s0,s1⟩
   clear hK K
   try simp only[Act.put,bn,bC,bD]
   refine wpAnyH_done (by kernel_rfl) ?_ _;go_upto_region 7 with(fail)
   clear hgt hgt2;obtain⟨P5,Xq⟩:∃P,P=As:=⟨_,rfl⟩;subst Xq;obtain⟨P6,hP6⟩:∃P,P=Al:=⟨_,rfl⟩;subst hP6
  rotate_left
  have hgt:(0:Int)<(keep:Int):=by omega
  have hgt2:decide (0<keep)=true:=decide_eq_true hk;obtain⟨k,hk'⟩:∃k,keep=k+1:=⟨keep-1,by omega⟩;have HKK:=hid hk';have hwk1:IntKind.i64.wrap ((keep:Int)-1)=(k:Int):=by rw[IntWalk.i64_in _ (by have:=lW.out;have:=zU.out;omega)];omega
  obtain⟨j,hj⟩:∃j,p-1-back=j:=⟨_,rfl⟩;have hwp1:IntKind.i64.wrap ((p:Int)-1)=(p:Int)-1:=IntWalk.i64_in _ (by have:=zU.out;omega);have hwp2:IntKind.i64.wrap ((p:Int)-1-(back:Int))=(j:Int):=by rw[IntWalk.i64_in _ (by have:=zU.out;have:=lW.out;omega)];have:=zU.out;have:=lW.out;omega
  have HJJ:=hid hj;have hkn:(k:Int)<(sn:Int):=by have:=lW.out;omega
  have hk0:(0:Int)<=(k:Int):=by omega
  have hjp:(j:Int)<(p:Int):=by have:=zU.out;omega
  have hj0:(0:Int)<=(j:Int):=by omega
  have hsx:=(HS.out.any Qm.out).get (k:=k) (by have:=lW.out;have:=rO.out;omega);have hlx:=((HL.out.any Qm.out).take (k:=p) (by have:=zU.out;have:=EP.out;omega)).get (k:=j) (by have:=zU.out;have:=EP.out;rw[kH.out];omega);clear hk' hj;obtain⟨b1,o1,x,rfl,_,hl1,HX,x0⟩:=hsx;obtain⟨b2,o2,y,rfl,_,hl2,HY,y0⟩:=hlx;have mZ:=hid HX.out;have HYY:=hid HY.out;clear HX HY;go_upto_region 4 with(fail)
  by_cases hxy:x=y
  ·subst hxy
   go_quiet (fail)
   all_goals
    clear s0 s1 zb x0 y0 hl1 hl2 hgt2;have hwb:IntKind.i64.wrap ((back:Int)+1)=((back+1:Nat):Int):=IntWalk.i64_in _ (by have:=lW.out;have:=zU.out;omega);obtain⟨b9,ni⟩:∃b,back+1=b:=⟨_,rfl⟩;rw[ni]at hwb;obtain⟨bk,hbk⟩:∃b,b9 % p=b:=⟨_,rfl⟩;have hp0:¬(p:Int)=0:=by have:=zU.out;omega
    have hp00:¬p=0:=by have:=zU.out;omega
    have htz:(b9:Int).tmod (p:Int)=(bk:Int):=by
     rw[Int.tmod_eq_emod_of_nonneg (by omega),<-hbk];exact(Int.natCast_emod b9 p).symm
    have hwz:IntKind.i64.wrap (bk:Int)=(bk:Int):=IntWalk.i64_in _ (by have:=zU.out;have h3:=Nat.mod_lt b9 zU.out.1;rw[hbk]at h3;omega);have HBK:=hid (show(back+1) % p=bk by rw[ni];exact hbk);clear ni;go_wp2_with fail
    go_roundw
    case rel=>exact⟨k,bk,by
     have h1:=Sv (by rw[kH.out];exact zU.out.1) (by rw[<-HKK.out];exact HNI.out) (by rw[kH.out,HJJ.out,mZ.out,HYY.out]);rw[kH.out,HBK.out]at h1
     exact h1,by go_num,by go_num,by first|exact vO.out|exact au vO.out (below_drewN (Below.refl _ _) _)⟩
    case measure=>have:=HKK.out;simp[intOf];omega
  go_quiet (fail)
  clear x0 y0 hl1 hl2 hgt hk hgt2 hwk1 hwp1 hwp2 hkn hk0 hjp hj0;go_upto_region 7 with(fail)
  obtain⟨P5,Xq⟩:∃P,P=(some ⟨b1,o1,none⟩:Option Addr):=⟨_,rfl⟩;obtain⟨P6,hP6⟩:∃P,P=(some ⟨b2,o2,none⟩:Option Addr):=⟨_,rfl⟩;rw[<-Xq,<-hP6]at aI mW;rw[<-Xq]at HS Md s0;rw[<-hP6]at HL HTU s1;rw[<-Xq,<-hP6];clear Xq hP6
  all_goals
   have hp0:¬(p:Int)=0:=by have:=zU.out;omega
   have hp00:¬p=0:=by have:=zU.out;omega
   have hwz:IntKind.i64.wrap ((p:Int)-(back:Int))=((p-back:Nat):Int):=by rw[IntWalk.i64_in _ (by have:=zU.out;have:=lW.out;omega)];have:=lW.out;omega
   obtain⟨pb,hpb⟩:∃x,p-back=x:=⟨_,rfl⟩;rw[hpb]at hwz
   have htz:(pb:Int).tmod (p:Int)=(k2:Int):=by
    rw[Int.tmod_eq_emod_of_nonneg (by omega),<-zT.out,hpb];exact(Int.natCast_emod pb p).symm
   have htz2:pb % p=k2:=by rw[<-hpb];exact zT.out
   have hwk:IntKind.i64.wrap (k2:Int)=(k2:Int):=IntWalk.i64_in _ (by have:=zU.out;have h3:=Nat.mod_lt (p-back) zU.out.1;rw[zT.out]at h3;omega);have hslk:∀X,(Instr.slice 35 (.slice P5 sn cs) none (some (.int .i64 (keep:Int))) none).run Tryz.prog X = .ok (.slice P5 keep cs) X := λ X=>yu P5 (n:=sn) (c:=cs) (k:=keep) (by have:=zU.out;have:=lW.out;omega) X;clear hpb;refine aC λ wr2 hwr2=>?_;have HW2:=hid (show Below wr.heap.size wr wr2 by rw[hwr2];first|exact Below.refl _ _|exact below_drewN (Below.refl _ _) _|go_grown);clear hwr2;have HI0:=hid (HW2.out);have HI1:=hid (show Below wr.heap.size wr wr2.drew from HW2.out.drew)
   have HI2:=hid (show∀i,Below wr.heap.size wr (wr2.drewN i)from λ i=>below_drewN HW2.out i);clear s0 s1 zb;obtain⟨s0,s1⟩:=aI.out wr2 (au Xm.out HW2.out);have qaz:Hid (∀X:World,Below wr.heap.size wr X->X.cell? ⟨w.heap.size,0,none⟩=some (.slice P5 sn cs)/\X.cell? ⟨w.heap.size,1,none⟩=some (.slice P6 ln cl)):=hid λ X hb=>aI.out X (au Xm.out hb);refine wp_region_held_drew (S := λ X:World=>X.cell? ⟨w.heap.size,0,none⟩=some (.slice P5 sn cs)/\X.cell? ⟨w.heap.size,1,none⟩=some (.slice P6 ln cl)) (by kernel_rfl) (qaz.out _ HI1.out) (λ hHeld=>?_);refine dS 0 ?_ rfl (by kernel_rfl) (λ _ _ _ h=>h) ?_ (by assumption) ?_
   rotate_left
   ·intro w hSw;(try dsimp only at hSw);obtain⟨s0,s1⟩:=hSw;go_simp;(try(with_reducible rfl))
   try simp only[Act.put,bn,bC,bD]
   refine dS 1 ?_ rfl (by kernel_rfl) (λ _ _ _ h=>h) ?_ (by assumption) ?_
   rotate_left
   ·intro w hSw;(try dsimp only at hSw);obtain⟨s0,s1⟩:=hSw;go_simp;(try(with_reducible rfl))
   try simp only[Act.put,bn,bC,bD]
   refine dS 2 ?_ rfl (by kernel_rfl) (λ _ _ _ h=>h) ?_ (by assumption) ?_
   rotate_left
   ·intro w hSw;(try dsimp only at hSw);obtain⟨s0,s1⟩:=hSw;go_simp;(try(with_reducible rfl))
   try simp only[Act.put,bn,bC,bD]
   refine dS 3 ?_ rfl (by kernel_rfl) (λ _ _ _ h=>h) ?_ (by assumption) ?_
   rotate_left
   ·intro w hSw;(try dsimp only at hSw);obtain⟨s0,s1⟩:=hSw;go_simp;(try(with_reducible rfl))
   try simp only[Act.put,bn,bC,bD]
   refine dS 5 ?_ rfl (by kernel_rfl) (λ _ _ _ h=>h) ?_ (by assumption) ?_
   rotate_left
   ·intro w hSw;(try dsimp only at hSw);obtain⟨s0,s1⟩:=hSw;go_simp;(try(with_reducible rfl))
   try simp only[Act.put,bn,bC,bD]
   refine dS 6 ?_ rfl (by kernel_rfl) (λ _ _ _ h=>h) ?_ (by assumption) ?_
   rotate_left
   ·intro w hSw;(try dsimp only at hSw);obtain⟨s0,s1⟩:=hSw;go_simp;(try(with_reducible rfl))
   try simp only[Act.put,bn,bC,bD]
   refine dS 7 ?_ rfl (by kernel_rfl) (λ _ _ _ h=>h) ?_ (by assumption) ?_
   rotate_left
   ·intro w hSw;(try dsimp only at hSw);obtain⟨s0,s1⟩:=hSw;go_simp;(try(with_reducible rfl))
   try simp only[Act.put,bn,bC,bD]
   refine dS 8 ?_ rfl (by kernel_rfl) (λ _ _ _ h=>h) ?_ (by assumption) ?_
   rotate_left
   ·intro w hSw;(try dsimp only at hSw);obtain⟨s0,s1⟩:=hSw;go_simp;(try(with_reducible rfl))
   try simp only[Act.put,bn,bC,bD]
   refine dS 9 ?_ rfl (by kernel_rfl) (λ _ _ _ h=>h) ?_ (by assumption) ?_
   rotate_left
   ·intro w hSw;(try dsimp only at hSw);obtain⟨s0,s1⟩:=hSw;go_simp;(try(with_reducible rfl))
   try simp only[Act.put,bn,bC,bD]
   refine dS 10 ?_ rfl (by kernel_rfl) (λ _ _ _ h=>h) ?_ (by assumption) ?_
   rotate_left
   ·intro w hSw;(try dsimp only at hSw);obtain⟨s0,s1⟩:=hSw;go_simp;(try(with_reducible rfl))
   try simp only[Act.put,bn,bC,bD]
   refine lK 4 (by kernel_rfl) rfl λ K hK=>?_
   go_simp
   (go_at_call 117;(with_reducible refine(Md.out _ HI1.out).mono ?_);rintro e W7 ⟨⟨A7,c7,rfl,HA7⟩,hI⟩;have HJ:=hid (au HI1.out hI);have HJ7:=hid hI;clear hI)
   go_wp2_with fail
   refine hK.out _ _ ?_ (λ hHeld=>?_)
   ·exact qaz.out _ HJ.out
   clear hK K
   try simp only[Act.put,bn,bC,bD]
   refine lK 11 (by kernel_rfl) rfl λ K hK=>?_
   go_simp
   (go_at_call 79;(with_reducible refine(HTU.out _ HJ.out).mono ?_);rintro e W8 ⟨⟨A8,rfl,HA8⟩,hI⟩;have HJ2:=hid (au HJ.out hI);have HJ8:=hid hI;clear hI)
   go_wp2_with fail
   refine hK.out _ _ ?_ (λ hHeld=>?_)
   ·exact qaz.out _ HJ2.out
   clear hK K
   try simp only[Act.put,bn,bC,bD]
   refine dS 12 ?_ rfl (by kernel_rfl) (λ _ _ _ h=>h) ?_ (by assumption) ?_
   rotate_left
   ·intro w hSw;(try dsimp only at hSw);obtain⟨s0,s1⟩:=hSw;go_simp;(try(with_reducible rfl))
   try simp only[Act.put,bn,bC,bD]
   have NP:=kG.out.below (au Xm.out HJ2.out);obtain⟨z0,z1,z2⟩:=NP.cells;have y0:=NP.free 0;have y1:=NP.free 1;have HO8:=hid NP;clear NP;refine lK 13 (by kernel_rfl) rfl λ K hK=>?_
   go_simp
   have wI:Hid (w.heap.size+1<wr.heap.size):=hid (Nat.lt_of_lt_of_le kG.out.cells.2.2 Xm.out.size);have HS8:=hid (HJ2.out.size);refine hK.out _ _ ?_ (λ hHeld=>?_)
   ·have ni:=(Bl (w:=W8) (b:=w.heap.size+1) (.slice A7 keep c7) (.slice A8 p p)).below (B:=w.heap.size+1) (λ x hx hv=>by have hv':x=w.heap.size+1:=hv;omega) (by have:=wI.out;have:=HS8.out;omega)
    have h8:=qaz.out W8 HJ2.out;exact⟨(ni.cell (Nat.lt_succ_self _)).trans h8.1,(ni.cell (Nat.lt_succ_self _)).trans h8.2⟩
   clear hK K
   try simp only[Act.put,bn,bC,bD]
   refine wpAnyH_done (by kernel_rfl) ?_ _;clear z0 z1 z2 y0 y1 s0 s1;go_wp2_with fail
   refine aK λ W9 yh=>?_;obtain⟨V2,hV2⟩:∃V:iV,V=⟨W.stem.take keep,jG (W.loop.take p) ((p-back) % p)⟩:=⟨_,rfl⟩;have e1:V2.stem.length=keep:=by rw[hV2];show(W.stem.take keep).length=_;rw[List.length_take];have:=lW.out;have:=rO.out;omega
   have e2:V2.loop.length=p:=by rw[hV2];show(jG (W.loop.take p) ((p-back) % p)).length=p;rw[qH (by rw[kH.out];exact Nat.le_of_lt (Nat.mod_lt _ zU.out.1)),kH.out]
   have hO9:gQ W9 (w.heap.size+1) V2 A7 c7 A8 p:=by
    have h9:=OT (W':=V2) (As':=A7) (cs':=c7) (Al':=A8) (cl':=p) HO8.out;rw[e1,e2]at h9;rw[yh];exact h9
   have Vy:aH (λ x=>x=w.heap.size+1) W8 W9:=by rw[yh];exact Bl _ _
   clear yh;have hk:Keeps (λ k=>wr.heap.size<=k) W8 W9:=Vy.keeps λ k _ hk hv=>by have hv':k=w.heap.size+1:=hv;have:=wI.out;omega
   have h7:=(HA7.out.belowD HJ8.out).keep hk;have h8:=HA8.out.keep hk;obtain⟨r0,r1,r2⟩:=hO9.cells;rw[e1]at r0;rw[e2]at r1;refine bodyPost_ret (v := .agg #[.slice A7 keep c7,.slice A8 p p]) (by simp[results,Tryz.results78,go_sem,r0,r1]) rfl ⟨_,V2,rfl,⟨A7,c7,A8,p,by rw[e1,e2],?_,?_⟩,?_,?_⟩
   ·rw[hV2];exact h7.mono λ k hk _=>Nat.le_trans Qm.out.size hk
   ·rw[hV2]
    show jm W9 _ A8 p (jG (W.loop.take p) ((p-back) % p));rw[zT.out];exact h8.mono λ k hk _=>Nat.le_trans Qm.out.size hk
   ·rw[hV2];exact Wq HP.out HNI.out
   ·have hbw:=au Qm.out HJ2.out
    exact hbw.trans (Vy.below (B:=w.heap.size) (λ x hx hv=>by have hv':x=w.heap.size+1:=hv;omega) hbw.size)
def tu (W:iV)(k:Nat)(W':iV):Prop:=0<W'.loop.length/\W'.loop.length<=W.loop.length/\W'.stem.length<=W.stem.length/\∀t,aP W' t=aP W (k+t)
theorem O1 {W W':iV}{k:Nat}{m:Int}(hf:dF W=true)(hw:iH m W=true)(h:tu W k W'):dF W'=true/\iH m W'=true:=by
 have hl:=lZ hf;unfold dF at hf;simp only[Bool.and_eq_true,decide_eq_true_eq]at hf;have hs:W'.stem.length<=W.stem.length:=h.2.2.1;have hlp:W'.loop.length<=W.loop.length:=h.2.1;have h0:0<W'.loop.length:=h.1
 have key:∀m:Int,iH m W=true->∀t,0<=aP W' t/\aP W' t<m := λ m hm t=>by
  rw[h.2.2.2];exact yZ hm _
 have hall:∀m:Int,(∀t,0<=aP W' t/\aP W' t<m)->dO W'.stem m=true/\dO W'.loop m=true := λ m hm =>
  ⟨Nh λ i hi=>by have:=hm i;unfold aP at this;rwa [if_pos hi]at this,Nh λ i hi=>by
   have:=hm (W'.stem.length+i);unfold aP at this
   rwa [if_neg (by omega),show W'.stem.length+i-W'.stem.length=i by omega,Nat.mod_eq_of_lt hi]at this⟩
 have hw64:iH 64 W=true:=by
  unfold iH dF;simp only[Bool.and_eq_true,decide_eq_true_eq];exact⟨⟨hf,hf.1.2⟩,hf.2⟩
 have hF:dF W'=true:=by
  have h64:=hall 64 (key 64 hw64);unfold dF;simp only[Bool.and_eq_true,decide_eq_true_eq];exact⟨⟨⟨⟨by omega,by omega⟩,by omega⟩,h64.1⟩,h64.2⟩
 refine⟨hF,?_⟩;have hmm:=hall m (key m hw);unfold iH;rw[hF,hmm.1,hmm.2];rfl
theorem Tt {D:Dom}(W:iV)(k:Nat)(v:Value)(w:World)(h:yT w D v W)(hf:dF W=true)(hk:k<=1000000) :
  Calls Tryz.prog 28 #[v,.int .i64 (k:Int)] w λ e w'=>∃u W',e = .returned u/\yT w' aW u W'/\tu W k W'/\Below w.heap.size w w':=by
 obtain⟨As,cs,Al,cl,rfl,hs,hl⟩:=h;have hfo:=lZ hf;have hf2:=hf;unfold dF at hf2;simp only[Bool.and_eq_true,decide_eq_true_eq]at hf2;obtain⟨sn,hsn⟩:∃n,W.stem.length=n:=⟨_,rfl⟩;obtain⟨ln,hln⟩:∃n,W.loop.length=n:=⟨_,rfl⟩;have rO:=hid hsn;have EP:=hid hln;have HFF:=hid hf
 have H0:=hid (show sn<=60/\0<ln/\ln<=40/\sn<=cs/\ln<=cl/\k<=1000000 by
  have h1:=hs.len.2.1;have h2:=hl.len.2.1
  omega)
 rw[hsn,hln];have HS:=hid hs.old;have HL:=hid hl.old;clear hs hl hsn hln hf hf2 hfo hk
 go_enter Tryz.func28,Tryz.ntmps28
 go_upto_region 1 with(fail)
 refine aC λ U hU=>?_;have HB:=hid (show Below w.heap.size w U by rw[hU];go_grown);have mW:=hid (show gQ U w.heap.size W As cs Al cl by show U.heap[_]?=_;rw[rO.out,EP.out,hU,aQ _ _ _ (by simp)];exact at_new _ _ _ rfl);have kG:=hid (show gQ U (w.heap.size+1) ⟨[],[]⟩ none 0 none 0 by show U.heap[_]?=_;rw[hU];exact at_new _ _ _ (by simp));clear hU
 have aI:Hid (∀X:World,Below U.heap.size U X->X.cell? ⟨w.heap.size,0,none⟩=some (.slice As sn cs)/\X.cell? ⟨w.heap.size,1,none⟩=some (.slice Al ln cl)):=hid λ X hb=>by
  have h:=(mW.out.below hb).cells;rw[rO.out,EP.out]at h;exact⟨h.1,h.2.1⟩
 have zS:Hid (Calls Tryz.prog 62 #[.agg #[.slice As sn cs,.slice Al ln cl]] U λ e w'=>e = .returned (.bool true)/\Below U.heap.size U w'):=hid (by
  refine(FM (D:=aW) W _ U ⟨As,cs,Al,cl,by rw[rO.out,EP.out],HS.out.any HB.out,HL.out.any HB.out⟩).mono ?_;rintro e w' ⟨rfl,hb⟩
  exact⟨by rw[HFF.out],hb⟩)
 have MH:Hid (∀(X:World) (V:iV) (A1 A2:Option Addr) (c1 c2 m1 m2:Nat),Below U.heap.size U X->m1=V.stem.length->m2=V.loop.length->jm X aW A1 c1 V.stem->jm X aW A2 c2 V.loop->0<V.loop.length->V.loop.length<=W.loop.length->V.stem.length<=W.stem.length->(∀t,aP V t=aP W (k+t)) ->
   Calls Tryz.prog 78 #[.agg #[.slice A1 m1 c1,.slice A2 m2 c2]] X λ e w'=>(∃W' B1 d1 B2 d2,e = .returned (.agg #[.slice B1 W'.stem.length d1,.slice B2 W'.loop.length d2])/\Hid (jm w' (λ k=>k≠w.heap.size+1) B1 d1 W'.stem/\jm w' (λ k=>k≠w.heap.size+1) B2 d2 W'.loop/\tu W k W'))/\Below U.heap.size U w'):=hid λ X V A1 A2 c1 c2 m1 m2 hb h1 h2 h3 h4 h5 h6 h7 h8=>by
  refine(SA (D:=aW) V _ X ⟨A1,c1,A2,c2,by rw[h1,h2],h3,h4⟩ h5 (by have:=H0.out;have:=rO.out;omega) (by have:=H0.out;have:=EP.out;omega)).mono ?_;rintro e w' ⟨u,W',rfl,⟨B1,d1,B2,d2,rfl,g1,g2⟩,⟨n1,n2,n3,n4⟩,hb'⟩;have hlt:=kG.out.cells.2.2;have hsz:=hb.size;exact⟨⟨W',B1,d1,B2,d2,rfl,g1.mono λ k hk _=>by omega,g2.mono λ k hk _=>by omega,n1,by omega,by omega,λ t=>by rw[n4,h8]⟩,au hb hb'⟩
 obtain⟨s0,s1⟩:=aI.out U (Below.refl _ _);have zb:=mW.out.cells.2.2;have hk0:¬(k:Int)<0:=by omega
 go_upto_region 3 with(go_at_call 62;(with_reducible refine zS.out.mono ?_);rintro e V ⟨rfl,hb⟩;have HV:=hid hb;clear hb s0 s1 zb)
 obtain⟨s0,s1⟩:=aI.out V HV.out;have zb:w.heap.size<V.heap.size:=Nat.lt_of_lt_of_le mW.out.cells.2.2 HV.out.size;have HI1:=hid (show Below U.heap.size U V.drew from HV.out.drew);have HI2:=hid (show∀i,Below U.heap.size U (V.drewN i)from λ i=>below_drewN HV.out i);have HIV:=hid HI1.out;have HS0:Hid ((λ X:World=>X.cell? ⟨w.heap.size,0,none⟩=some (.slice As sn cs)/\X.cell? ⟨w.heap.size,1,none⟩=some (.slice Al ln cl)) V.drew):=hid (aI.out _ HI1.out)
 rcases Nat.lt_or_ge sn k with hsk|hsk
 case' inr =>
  have hle:(k:Int)<=(sn:Int):=by omega
  have hk00:(0:Int)<=(k:Int):=by omega
  obtain⟨A1,hA1⟩:∃B,(if cs=k then As else As.map (·.add k))=B:=⟨_,rfl⟩;obtain⟨c1,hc1⟩:∃m,cs-k=m:=⟨_,rfl⟩;obtain⟨m1,hm1⟩:∃m,sn-k=m:=⟨_,rfl⟩
  have hsl:∀X,(Instr.slice 35 (.slice As sn cs) (some (.int .i64 (k:Int))) none none).run Tryz.prog X = .ok (.slice A1 m1 c1) X := λ X=>by
   rw[rU As (n:=sn) (c:=cs) (k:=k) hsk X,hA1,hc1,hm1]
  have HN1:Hid (∀X:World,Below U.heap.size U X->Calls Tryz.prog 78 #[.agg #[.slice A1 m1 c1,.slice Al ln cl]] X λ e w'=>(∃W' B1 d1 B2 d2,e = .returned (.agg #[.slice B1 W'.stem.length d1,.slice B2 W'.loop.length d2])/\Hid (jm w' (λ k=>k≠w.heap.size+1) B1 d1 W'.stem/\jm w' (λ k=>k≠w.heap.size+1) B2 d2 W'.loop/\tu W k W'))/\Below U.heap.size U w'):=hid λ X hb=>by
   have h1:=(HS.out.any (au HB.out hb)).cut (k:=k) (by rw[rO.out];exact hsk);rw[hA1,hc1]at h1;exact MH.out X ⟨W.stem.drop k,W.loop⟩ A1 Al c1 cl m1 ln hb (by show m1=(W.stem.drop k).length;rw[List.length_drop,rO.out,hm1]) EP.out.symm h1 (HL.out.any (au HB.out hb)) (by show 0<W.loop.length;have:=H0.out;have:=EP.out;omega) (Nat.le_refl _) (by show(W.stem.drop k).length<=_;rw[List.length_drop];omega) (λ t=>KA (by rw[rO.out];exact hsk) t)
  clear hA1 hc1 hm1;go_upto_region 4 with(fail)
  refine wp_region_held_drew (S := λ X:World=>X.cell? ⟨w.heap.size,0,none⟩=some (.slice As sn cs)/\X.cell? ⟨w.heap.size,1,none⟩=some (.slice Al ln cl)) (by kernel_rfl) HS0.out (λ hHeld=>?_);clear s0 s1;refine dS 0 ?_ rfl (by kernel_rfl) (λ _ _ _ h=>h) ?_ (by assumption) ?_
  rotate_left
  ·intro w hSw;(try dsimp only at hSw);obtain⟨s0,s1⟩:=hSw;go_simp;(try(with_reducible rfl))
  try simp only[Act.put,bn,bC,bD]
  refine dS 1 ?_ rfl (by kernel_rfl) (λ _ _ _ h=>h) ?_ (by assumption) ?_
  rotate_left
  ·intro w hSw;(try dsimp only at hSw);obtain⟨s0,s1⟩:=hSw;go_simp;(try(with_reducible rfl))
  try simp only[Act.put,bn,bC,bD]
  refine dS 2 ?_ rfl (by kernel_rfl) (λ _ _ _ h=>h) ?_ (by assumption) ?_
  rotate_left
  ·intro w hSw;(try dsimp only at hSw);obtain⟨s0,s1⟩:=hSw;go_simp;(try(with_reducible rfl))
  try simp only[Act.put,bn,bC,bD]
  refine dS 3 ?_ rfl (by kernel_rfl) (λ _ _ _ h=>h) ?_ (by assumption) ?_
  rotate_left
  ·intro w hSw;(try dsimp only at hSw);obtain⟨s0,s1⟩:=hSw;go_simp;(try(with_reducible rfl))
  try simp only[Act.put,bn,bC,bD]
  refine dS 4 ?_ rfl (by kernel_rfl) (λ _ _ _ h=>h) ?_ (by assumption) ?_
  rotate_left
  ·intro w hSw;(try dsimp only at hSw);obtain⟨s0,s1⟩:=hSw;go_simp;(try(with_reducible rfl))
  try simp only[Act.put,bn,bC,bD]
  refine dS 5 ?_ rfl (by kernel_rfl) (λ _ _ _ h=>h) ?_ (by assumption) ?_
  rotate_left
  ·intro w hSw;(try dsimp only at hSw);obtain⟨s0,s1⟩:=hSw;go_simp;(try(with_reducible rfl))
  try simp only[Act.put,bn,bC,bD]
  refine dS 6 ?_ rfl (by kernel_rfl) (λ _ _ _ h=>h) ?_ (by assumption) ?_
  rotate_left
  ·intro w hSw;(try dsimp only at hSw);obtain⟨s0,s1⟩:=hSw;go_simp;(try(with_reducible rfl))
  try simp only[Act.put,bn,bC,bD]
  refine lK 7 (by kernel_rfl) rfl λ K hK=>?_
  go_simp
  (go_at_call 78;(with_reducible refine(HN1.out _ HI1.out).mono ?_);rintro e W8 ⟨⟨W',B1,d1,B2,d2,rfl,Xk⟩,hI⟩;have HJ:=hid hI;clear hI)
  go_wp2_with fail
  refine hK.out _ _ ?_ (λ hHeld=>?_)
  ·exact aI.out _ HJ.out
  clear hK K
  try simp only[Act.put,bn,bC,bD]
  have NP:=kG.out.below HJ.out;obtain⟨z0,z1,z2⟩:=NP.cells;have y0:=NP.free 0;have y1:=NP.free 1;have HO8:=hid NP;clear NP;refine lK 8 (by kernel_rfl) rfl λ K hK=>?_
 case' inl =>
  have hle:¬(k:Int)<=(sn:Int):=by omega
  have hl0:¬(ln:Int)=0:=by have:=H0.out;omega
  have hl00:¬ln=0:=by have:=H0.out;omega
  obtain⟨d,hd⟩:∃d,k-sn=d:=⟨_,rfl⟩;have hwd:IntKind.i64.wrap ((k:Int)-(sn:Int))=(d:Int):=by rw[IntWalk.i64_in _ (by have:=H0.out;omega)];omega
  obtain⟨r,hr⟩:∃r,d % ln=r:=⟨_,rfl⟩
  have htm:(d:Int).tmod (ln:Int)=(r:Int):=by
   rw[Int.tmod_eq_emod_of_nonneg (by omega),<-hr];exact(Int.natCast_emod d ln).symm
  have hrl:r<ln:=by rw[<-hr];exact Nat.mod_lt _ H0.out.2.1
  have hwr:IntKind.i64.wrap (r:Int)=(r:Int):=IntWalk.i64_in _ (by have:=H0.out;omega);have XU:=hid (show(k-sn) % ln=r by rw[hd];exact hr);have pK:=hid hrl;have HSK:=hid hsk
  have HTU:Hid (∀X:World,Below U.heap.size U X->Calls Tryz.prog 79 #[.slice Al ln cl,.int .i64 (r:Int)] X λ e w'=>(∃A,e = .returned (.slice A ln ln)/\Hid (jm w' aW A ln (jG W.loop r)))/\Below U.heap.size U w'):=hid λ X hb=>by
   refine(G6 W.loop Al cl ln r X EP.out.symm (HL.out.any (au HB.out hb)) (by rw[EP.out];exact pK.out) (by have:=H0.out;omega)).mono ?_;rintro e w' ⟨A,rfl,hb',h⟩;exact⟨⟨A,rfl,h.any (Below.refl _ _)⟩,au hb hb'⟩
  have HNT:Hid (∀(X:World) A,Below U.heap.size U X->jm X aW A ln (jG W.loop r)->Calls Tryz.prog 78 #[.agg #[.slice none 0 0,.slice A ln ln]] X λ e w'=>(∃W' B1 d1 B2 d2,e = .returned (.agg #[.slice B1 W'.stem.length d1,.slice B2 W'.loop.length d2])/\Hid (jm w' (λ k=>k≠w.heap.size+1) B1 d1 W'.stem/\jm w' (λ k=>k≠w.heap.size+1) B2 d2 W'.loop/\tu W k W'))/\Below U.heap.size U w'):=hid λ X A hb hA=>by
   have hrl2:r<W.loop.length:=by rw[EP.out];exact pK.out
   have hlen:(jG W.loop r).length=ln:=by rw[qH (Nat.le_of_lt hrl2),EP.out]
   exact MH.out X ⟨[],jG W.loop r⟩ none A 0 ln 0 ln hb rfl hlen.symm (jm.nil _ _ _ (by omega)) hA (by show 0<(jG W.loop r).length;rw[hlen];exact H0.out.2.1) (by show(jG W.loop r).length<=_;rw[hlen,EP.out];exact Nat.le_refl _) (Nat.zero_le _) (λ t=>by
    have:=LK (W:=W) (n:=k) (by rw[rO.out];exact HSK.out) (by rw[EP.out];exact H0.out.2.1) t;rw[rO.out,EP.out,XU.out]at this
    exact this)
  clear hd hrl hsk;go_upto_region 5 with(fail)
  refine wp_region_held_drew (S := λ X:World=>X.cell? ⟨w.heap.size,0,none⟩=some (.slice As sn cs)/\X.cell? ⟨w.heap.size,1,none⟩=some (.slice Al ln cl)) (by kernel_rfl) HS0.out (λ hHeld=>?_);clear s0 s1;refine dS 0 ?_ rfl (by kernel_rfl) (λ _ _ _ h=>h) ?_ (by assumption) ?_
  rotate_left
  ·intro w hSw;(try dsimp only at hSw);obtain⟨s0,s1⟩:=hSw;go_simp;(try(with_reducible rfl))
  try simp only[Act.put,bn,bC,bD]
  refine dS 1 ?_ rfl (by kernel_rfl) (λ _ _ _ h=>h) ?_ (by assumption) ?_
  rotate_left
  ·intro w hSw;(try dsimp only at hSw);obtain⟨s0,s1⟩:=hSw;go_simp;(try(with_reducible rfl))
  try simp only[Act.put,bn,bC,bD]
  refine dS 2 ?_ rfl (by kernel_rfl) (λ _ _ _ h=>h) ?_ (by assumption) ?_
  rotate_left
  ·intro w hSw;(try dsimp only at hSw);obtain⟨s0,s1⟩:=hSw;go_simp;(try(with_reducible rfl))
  try simp only[Act.put,bn,bC,bD]
  refine dS 3 ?_ rfl (by kernel_rfl) (λ _ _ _ h=>h) ?_ (by assumption) ?_
  rotate_left
  ·intro w hSw;(try dsimp only at hSw);obtain⟨s0,s1⟩:=hSw;go_simp;(try(with_reducible rfl))
  try simp only[Act.put,bn,bC,bD]
  refine dS 4 ?_ rfl (by kernel_rfl) (λ _ _ _ h=>h) ?_ (by assumption) ?_
  rotate_left
  ·intro w hSw;(try dsimp only at hSw);obtain⟨s0,s1⟩:=hSw;go_simp;(try(with_reducible rfl))
  try simp only[Act.put,bn,bC,bD]
  refine dS 5 ?_ rfl (by kernel_rfl) (λ _ _ _ h=>h) ?_ (by assumption) ?_
  rotate_left
  ·intro w hSw;(try dsimp only at hSw);obtain⟨s0,s1⟩:=hSw;go_simp;(try(with_reducible rfl))
  try simp only[Act.put,bn,bC,bD]
  refine dS 6 ?_ rfl (by kernel_rfl) (λ _ _ _ h=>h) ?_ (by assumption) ?_
  rotate_left
  ·intro w hSw;(try dsimp only at hSw);obtain⟨s0,s1⟩:=hSw;go_simp;(try(with_reducible rfl))
  try simp only[Act.put,bn,bC,bD]
  refine dS 7 ?_ rfl (by kernel_rfl) (λ _ _ _ h=>h) ?_ (by assumption) ?_
  rotate_left
  ·intro w hSw;(try dsimp only at hSw);obtain⟨s0,s1⟩:=hSw;go_simp;(try(with_reducible rfl))
  try simp only[Act.put,bn,bC,bD]
  refine dS 8 ?_ rfl (by kernel_rfl) (λ _ _ _ h=>h) ?_ (by assumption) ?_
  rotate_left
  ·intro w hSw;(try dsimp only at hSw);obtain⟨s0,s1⟩:=hSw;go_simp;(try(with_reducible rfl))
  try simp only[Act.put,bn,bC,bD]
  refine dS 9 ?_ rfl (by kernel_rfl) (λ _ _ _ h=>h) ?_ (by assumption) ?_
  rotate_left
  ·intro w hSw;(try dsimp only at hSw);obtain⟨s0,s1⟩:=hSw;go_simp;(try(with_reducible rfl))
  try simp only[Act.put,bn,bC,bD]
  refine dS 10 ?_ rfl (by kernel_rfl) (λ _ _ _ h=>h) ?_ (by assumption) ?_
  rotate_left
  ·intro w hSw;(try dsimp only at hSw);obtain⟨s0,s1⟩:=hSw;go_simp;(try(with_reducible rfl))
  try simp only[Act.put,bn,bC,bD]
  refine lK 11 (by kernel_rfl) rfl λ K hK=>?_
  go_simp
  (go_at_call 79;(with_reducible refine(HTU.out _ HI1.out).mono ?_);rintro e W7 ⟨⟨A7,rfl,HA7⟩,hI⟩;have HJ7:=hid hI;clear hI)
  go_wp2_with fail
  refine hK.out _ _ ?_ (λ hHeld=>?_)
  ·exact aI.out _ HJ7.out
  clear hK K
  try simp only[Act.put,bn,bC,bD]
  refine dS 12 ?_ rfl (by kernel_rfl) (λ _ _ _ h=>h) ?_ (by assumption) ?_
  rotate_left
  ·intro w hSw;(try dsimp only at hSw);obtain⟨s0,s1⟩:=hSw;go_simp;(try(with_reducible rfl))
  try simp only[Act.put,bn,bC,bD]
  have HN1:=hid (HNT.out _ A7 HJ7.out HA7.out);refine lK 13 (by kernel_rfl) rfl λ K hK=>?_
  go_simp
  (go_at_call 78;(with_reducible refine(HN1.out).mono ?_);rintro e W8 ⟨⟨W',B1,d1,B2,d2,rfl,Xk⟩,hI⟩;have HJ:=hid hI;clear hI)
  go_wp2_with fail
  refine hK.out _ _ ?_ (λ hHeld=>?_)
  ·exact aI.out _ HJ.out
  clear hK K
  try simp only[Act.put,bn,bC,bD]
  have NP:=kG.out.below HJ.out;obtain⟨z0,z1,z2⟩:=NP.cells;have y0:=NP.free 0;have y1:=NP.free 1;have HO8:=hid NP;clear NP;refine lK 14 (by kernel_rfl) rfl λ K hK=>?_
 all_goals
  go_simp
  refine hK.out _ _ ?_ (λ hHeld=>?_)
  ·have ni:=(Bl (w:=W8) (b:=w.heap.size+1) (.slice B1 W'.stem.length d1) (.slice B2 W'.loop.length d2)).below (B:=w.heap.size+1) (λ x hx hv=>by have hv':x=w.heap.size+1:=hv;omega) (by have:=kG.out.cells.2.2;have:=HJ.out.size;omega)
   have h8:=aI.out W8 HJ.out;exact⟨(ni.cell (Nat.lt_succ_self _)).trans h8.1,(ni.cell (Nat.lt_succ_self _)).trans h8.2⟩
  clear hK K
  try simp only[Act.put,bn,bC,bD]
  refine wpAnyH_done (by kernel_rfl) ?_ _;clear z0 z1 z2 y0 y1;go_wp2_with fail
  refine aK λ W9 yh=>?_;have hO9:gQ W9 (w.heap.size+1) W' B1 d1 B2 d2:=by rw[yh];exact OT HO8.out
  have Vy:aH (λ x=>x=w.heap.size+1) W8 W9:=by rw[yh];exact Bl _ _
  clear yh;have hk:Keeps (λ k=>k≠w.heap.size+1) W8 W9:=Vy.keeps λ k _ hk hv=>hk hv;obtain⟨r0,r1,r2⟩:=hO9.cells;have hbw:=au HB.out HJ.out;exact bodyPost_ret (v := .agg #[.slice B1 W'.stem.length d1,.slice B2 W'.loop.length d2]) (by simp[results,Tryz.results28,go_sem,r0,r1]) rfl ⟨_,W',rfl,⟨B1,d1,B2,d2,rfl,(Xk.out.1.keep hk).mono λ _ _ _=>trivial,(Xk.out.2.1.keep hk).mono λ _ _ _=>trivial⟩,Xk.out.2.2,hbw.trans (Vy.below (B:=w.heap.size) (λ x hx hv=>by have hv':x=w.heap.size+1:=hv;omega) hbw.size)⟩
end Go.Proofs.YtdpbgcmfeajigaaGreatDoor
namespace Go.Proofs.YtdpbgcmfeajigaaGreatDoor
open Go.RowKit Go.Shelf
attribute [local go_sem] ak run_store_func
theorem La {D E F:Dom}(l:List Sg)(AS:Option Addr)(cS n:Nat)(f:Fm)(v u:Value)(W:iV)(z y:Int)(w:World)(hn:n=l.length)(hG:ng w E AS cS l)(hf:bI w D v f)(hW:yT w F u W)(hz0:0<=z)(hz1:z<=255)(hy0:0<=y)(hy1:y<=255)(hg:GF w)(hk:GK w) :
  Calls Tryz.prog 6 #[.slice AS n cS,v,u,.int .u8 z,.int .u8 y] w λ e w'=>e = .returned (.bool true)/\Below w.heap.size w w':=by
 obtain⟨AF,cF,rfl,hfa⟩:=hf;obtain⟨As,cs,Al,cl,rfl,hs,hl⟩:=hW;have HN:=hid hn;have HGL:=hid hG.old;have HF:=hid hfa.old;have HS:=hid hs.old;have HL:=hid hl.old;have HG:=hid hg;have HK:=hid hk;have HY:=hid (And.intro hy0 hy1);have HZ:=hid (And.intro hz0 hz1);clear hn hG hfa hs hl hg hk hy0 hy1 hz0 hz1
 go_enter Tryz.func6,Tryz.ntmps6
 go_upto_region 1 with(fail)
 refine aC λ U hU=>?_;have HB:=hid (show Below w.heap.size w U by rw[hU];go_grown);have HO:=hid (show OB U w.heap.size f.op f.name f.val f.bound AF f.args.length cF by show U.heap[_]?=_;rw[hU,aQ _ _ _ (by simp)];exact at_new _ _ _ rfl);have HW:=hid (show gQ U (w.heap.size+1) W As cs Al cl by show U.heap[_]?=_;rw[hU];exact at_new _ _ _ (by simp));clear hU;have HHD:=hid (VD U (HG.out.below HB.out HG.out.pos) (HK.out.below HB.out HK.out.pos));go_upto_region 2 with(go_at_call 8;(with_reducible refine HHD.out.mono ?_);rintro e V ⟨rfl,ku⟩;have iD:=hid ku;clear ku)
 have aT:=hid (au HB.out iD.out);have XR:=hid (HO.out.below iD.out);have HWV:=hid (HW.out.below iD.out)
 have HX:Hid (∀X:World,Below V.heap.size V X->bI X aW (.agg #[.int .i64 f.op,.string f.name,.int .i64 f.val,.int .i64 f.bound,.slice AF f.args.length cF]) f/\yT X aW (.agg #[.slice As W.stem.length cs,.slice Al W.loop.length cl]) W/\ng X aW AS cS l/\GF X/\GK X):=hid λ X hb =>
  ⟨⟨AF,cF,rfl,HF.out.any (au aT.out hb)⟩,⟨As,cs,Al,cl,rfl,HS.out.any (au aT.out hb),HL.out.any (au aT.out hb)⟩,HGL.out.any (au aT.out hb),HG.out.below (au aT.out hb) HG.out.pos,HK.out.below (au aT.out hb) HK.out.pos⟩
 clear HO HW HHD iD HB HF HS HL HG HK HGL;obtain⟨t0,t1,t2,t3,t4,t5⟩:=XR.out.cells;obtain⟨l0,l1,l2⟩:=HWV.out.cells;obtain⟨r0,hr0⟩:∃r,NG l f W=r:=⟨_,rfl⟩;have yQ:=hid (YF (D:=aW) (E:=aW) (F:=aW) l AS cS n f _ _ W V HN.out (HX.out V (Below.refl _ _)).2.2.1 (HX.out V (Below.refl _ _)).1 (HX.out V (Below.refl _ _)).2.1 r0 hr0);have HR0:=hid hr0;clear hr0;cases r0
 ·go_wp2_with (go_at_call 17;(with_reducible refine yQ.out.mono ?_);rintro e V2 ⟨rfl,hb2⟩;have HB2:=hid hb2;clear hb2)
  go_ret
  exact⟨rfl,au aT.out HB2.out⟩
 have zS:=hid (YG HR0.out)
 have HND:Hid (∀(X:World),Below V.heap.size V X->Calls Tryz.prog 10 #[.agg #[.int .i64 f.op,.string f.name,.int .i64 f.val,.int .i64 f.bound,.slice AF f.args.length cF]] X λ e w'=>∃A c,e = .returned (.slice A (aZ f).length c)/\bZ w' (Cl w') (aZ f) A c/\Below V.heap.size V w'):=hid λ X hb=>by
  obtain⟨hx1,hx2,hx3,hx4,hx5⟩:=HX.out X hb;refine(Jq (D:=aW) f _ X hx1 hx4 hx5).mono ?_;rintro e w' ⟨A,c,rfl,ha,hb'⟩;exact⟨A,c,rfl,ha.mono λ _ h _=>h.2,au hb hb'⟩
 obtain⟨L,hL⟩:∃L,aZ f=L:=⟨_,rfl⟩;have HL:=hid hL;have Xj:=hid (show L.length<=8 by rw[<-hL];exact zS.out.2.2.2.2.1);rw[hL]at HND;clear hL;have hLb:=Xj.out
 go_upto_region 5 with(first
  | (go_at_call 17;(with_reducible refine yQ.out.mono ?_);rintro e V2 ⟨rfl,hb2⟩;clear t0 t1 t2 t3 t4 t5 l0 l1 l2;obtain⟨t0,t1,t2,t3,t4,t5⟩:=(XR.out.below hb2).cells;obtain⟨l0,l1,l2⟩:=(HWV.out.below hb2).cells;have HB2:=hid hb2;clear hb2)
  | (go_at_call 10;(with_reducible refine(HND.out _ HB2.out).mono ?_);rintro e V3 ⟨AN,cN,rfl,ha,hb3⟩;clear t0 t1 t2 t3 t4 t5 l0 l1 l2;have HNA:=hid ha;have HB3:=hid hb3;clear ha hb3))
 have LU:=hid (show lH L=true by rw[<-HL.out];exact Oq zS.out.2.2.2.2.1);have HST:Hid (Calls Tryz.prog 18 #[.slice AN L.length cN] V3 λ e w'=>e = .returned (.int .i64 (sS L:Int))/\Below V3.heap.size V3 w'):=hid (JH L AN cN L.length V3 rfl HNA.out (λ _ h=>h) LU.out (HX.out V3 HB3.out).2.2.2.1 (HX.out V3 HB3.out).2.2.2.2);obtain⟨m0,hm0⟩:∃m,sS L=m:=⟨_,rfl⟩;rw[hm0]at HST;have HM0:=hid hm0;clear hm0;go_upto_region 6 with(go_at_call 18;(with_reducible refine HST.out.mono ?_);rintro e V4 ⟨rfl,hb4⟩;have HB4:=hid hb4;clear hb4)
 have dW:=hid (au HB3.out HB4.out);have HNX:=hid (HNA.out.aV HB4.out);clear HNA HST HND yQ HB2 HB3 HB4;have hcv:=Ua z HZ.out.1 HZ.out.2;obtain⟨at',hat⟩:∃a:Nat,z.tmod 61=(a:Int):=⟨(z.tmod 61).toNat,by have:=Int.tmod_nonneg 61 HZ.out.1;omega⟩;have HAT:=hid (show at'<61 by have:=Int.tmod_lt_of_pos z (show(0:Int)<61 by omega);omega);have hwa:IntKind.i64.wrap (at':Int)=(at':Int):=IntWalk.i64_in _ (by have:=HAT.out;omega);go_upto_region 8 with(fail)
 clear hcv hat hwa
 go_loopw [13,15] (λ r q wr=>∃t:Nat,t<=at'/\q = .int .i64 (t:Int)/\r = .int .i64 (lI l L W t:Int)/\Below V4.heap.size V4 wr) (λ _ q _=>at'-(intOf q).toNat)
 case atStart=>exact⟨0,Nat.zero_le _,rfl,by rw[<-HM0.out];rfl,by first|exact Below.refl _ _|go_grown⟩
 case round =>
  obtain⟨t,ht,rfl,rfl,hbl⟩:=hrel;have bH:=hid hbl;clear hbl;obtain⟨m,hm⟩:∃m,lI l L W t=m:=⟨_,rfl⟩;have HM:=hid hm;rw[hm];clear hm;have HBQ:=hid (au dW.out bH.out)
  by_cases hlt:t<at'
  ·have hii:(t:Int)<(at':Int):=by omega
   have dX:=hid hlt;have HXB:=hid (yZ zS.out.2.2.2.2.2.1 t);have hw1:IntKind.i64.wrap ((t:Int)+1)=(t:Int)+1:=IntWalk.i64_in _ (by have:=HAT.out;omega);obtain⟨x,hx⟩:∃x,aP W t=x:=⟨_,rfl⟩;have HLX:=hid hx;rw[hx]at HXB;clear hx hlt
   have HAT3:Hid (∀X:World,Below wr.heap.size wr X->Calls Tryz.prog 19 #[.agg #[.slice As W.stem.length cs,.slice Al W.loop.length cl],.int .i64 (t:Int)] X λ e w'=>e = .returned (.int .i64 x)/\Below wr.heap.size wr w'):=hid λ X hb=>by
    refine(qb7 W t _ X (HX.out X (au HBQ.out hb)).2.1 (by have:=dX.out;have:=HAT.out;omega) zS.out.2.2.2.2.2.2.1).mono ?_;rintro e w' ⟨rfl,hb'⟩;exact⟨by rw[HLX.out],au hb hb'⟩
   have wo:Hid (∀X:World,Below wr.heap.size wr X->Calls Tryz.prog 22 #[.slice AS n cS,.slice AN L.length cN,.int .i64 (m:Int),.int .i64 x] X λ e w'=>e = .returned (.int .i64 (lI l L W (t+1):Int))/\Below wr.heap.size wr w'):=hid λ X hb=>by
    obtain⟨hx1,hx2,hx3,hx4,hx5⟩:=HX.out X (au HBQ.out hb);refine(Oh l AS cS n L AN cN L.length m x X HN.out hx3 rfl (HNX.out.aV (au bH.out hb)) LU.out hx4 hx5 (by rw[<-HM.out];exact N9 l L W t) HXB.out.1 HXB.out.2).mono ?_;rintro e w' ⟨rfl,hb'⟩;refine⟨?_,au hb hb'⟩;show _=Ending.returned (.int .i64 (rW (kL l (aP W t)) L (lI l L W t):Int));rw[HLX.out,HM.out]
   have Md:Hid (∀X:World,Below wr.heap.size wr X->X.cell? ⟨w.heap.size+1,0,none⟩=some (.slice As W.stem.length cs)/\X.cell? ⟨w.heap.size+1,1,none⟩=some (.slice Al W.loop.length cl)):=hid λ X hb=>by
    obtain⟨a0,a1,_⟩:=(HWV.out.below (au HBQ.out hb)).cells;exact⟨a0,a1⟩
   have HI0:=hid (Below.refl wr.heap.size wr);have HI1:=hid (show Below wr.heap.size wr wr.drew from(Below.refl wr.heap.size wr).drew);have HI2:=hid (show∀i,Below wr.heap.size wr (wr.drewN i)from λ i=>below_drewN (Below.refl wr.heap.size wr) i);obtain⟨l0,l1⟩:=Md.out wr (Below.refl _ _);have l2:=(HWV.out.below HBQ.out).cells.2.2
   go_wp2_with (first
    | (go_at_call 19;(with_reducible refine(HAT3.out _ (by first|exact HI0.out|exact HI1.out|exact HI2.out _)).mono ?_);rintro e V5 ⟨rfl,hI⟩)
    | (go_at_call 22;(with_reducible refine(wo.out _ hI).mono ?_);rintro e V6 ⟨rfl,Uf⟩;clear hI;have hI:=Uf;clear Uf))
   have HI:=hid hI;clear hI l0 l1 l2;go_roundw
   case rel=>exact⟨t+1,by have:=dX.out;omega,by go_num,rfl,au bH.out HI.out⟩
   case measure=>have:=dX.out;simp[intOf];omega
  ·have hii:¬(t:Int)<(at':Int):=by omega
   have hta:t=at':=by omega
   subst hta;clear hlt ht;have Pz:=hid (show∀g,g∈aY f->g∈L from λ g hg=>by rw[<-HL.out];exact(qW zS.out.2.2.2.2.2.2.2).2 hg);have HML:=hid (show m<2 ^ L.length by rw[<-HM.out];exact N9 l L W t);obtain⟨g,hg⟩:∃g,qy L m f=g:=⟨_,rfl⟩;have HGP:=hid hg
   have HE2:Hid (∀(X:World),Below wr.heap.size wr X->Calls Tryz.prog 27 #[.slice AN L.length cN,.int .i64 (m:Int),.agg #[.int .i64 f.op,.string f.name,.int .i64 f.val,.int .i64 f.bound,.slice AF f.args.length cF]] X λ e w'=>(∃AG cG,e = .returned (.agg #[.int .i64 g.op,.string g.name,.int .i64 g.val,.int .i64 g.bound,.slice AG g.args.length cG])/\bZ w' (Cl w') g.args AG cG)/\Below wr.heap.size wr w'):=hid λ X hb=>by
    obtain⟨hx1,hx2,hx3,hx4,hx5⟩:=HX.out X (au HBQ.out hb);refine(Uw (D:=aW) L AN cN L.length (m:Int) f _ X rfl (HNX.out.aV (au bH.out hb)) LU.out hx1 zS.out.2.2.2.2.2.2.2 Pz.out hx4 hx5 (by have:=zS.out.1;omega) m rfl true (decide_eq_true HML.out)).mono ?_;rintro e w' ⟨u,rfl,hb',A,c,rfl,h⟩;rw[if_pos rfl,HGP.out]at h⊢;exact⟨⟨A,c,rfl,h.mono λ _ h _=>h.2⟩,au hb hb'⟩
   clear hg;obtain⟨t0,t1,t2,t3,t4,t5⟩:=(XR.out.below HBQ.out).cells;go_upto_region 12 with(go_at_call 27;(with_reducible refine(HE2.out _ (Below.refl _ _)).mono ?_);rintro e V7 ⟨⟨AG,cG,rfl,hga⟩,hb2⟩;clear t0 t1 t2 t3 t4 t5;have HV7:=hid hb2;clear hb2;have Xh:=hid hga;clear hga)
   refine aC λ U2 hU2=>?_;have hb:=(show Below V7.heap.size V7 U2 by rw[hU2];go_grown);have HU2:=hid (au HV7.out hb);have HOG:=hid (show OB U2 V7.heap.size g.op g.name g.val g.bound AG g.args.length cG by show U2.heap[_]?=_;rw[hU2];exact at_new _ _ _ rfl);have HGA2:Hid (bZ U2 (Cl U2) g.args AG cG):=hid (by have h1:=Xh.out;exact h1.aV hb);clear hU2 hb Xh HE2;obtain⟨gb,hgb⟩:∃x,V7.heap.size=x:=⟨_,rfl⟩;rw[hgb]at HOG;rw[hgb];clear hgb HV7;have hcv2:=Ua y HY.out.1 HY.out.2;obtain⟨kk,hkk⟩:∃a:Nat,y.tmod 5=(a:Int):=⟨(y.tmod 5).toNat,by have:=Int.tmod_nonneg 5 HY.out.1;omega⟩;have HKK:=hid (show kk<5 by have:=Int.tmod_lt_of_pos y (show(0:Int)<5 by omega);omega)
   have hwk:IntKind.i64.wrap (kk:Int)=(kk:Int):=IntWalk.i64_in _ (by have:=HKK.out;omega);have Xf:=hid (au HBQ.out HU2.out)
   have J8:Hid (∀X:World,Below U2.heap.size U2 X->Calls Tryz.prog 28 #[.agg #[.slice As W.stem.length cs,.slice Al W.loop.length cl],.int .i64 (t:Int)] X λ e w'=>(∃W' B1 d1 B2 d2,e = .returned (.agg #[.slice B1 W'.stem.length d1,.slice B2 W'.loop.length d2])/\Hid (jm w' aW B1 d1 W'.stem/\jm w' aW B2 d2 W'.loop/\tu W t W'))/\Below U2.heap.size U2 w'):=hid λ X hb=>by
    refine(Tt W t _ X (HX.out X (au Xf.out hb)).2.1 zS.out.2.2.2.2.2.2.1 (by have:=HAT.out;omega)).mono ?_;rintro e w' ⟨u,W',rfl,⟨B1,d1,B2,d2,rfl,h1,h2⟩,hs,hb'⟩;exact⟨⟨W',B1,d1,B2,d2,rfl,h1,h2,hs⟩,au hb hb'⟩
   obtain⟨l0,l1,l2⟩:=(HWV.out.below Xf.out).cells;go_upto_region 14 with(go_at_call 28;(with_reducible refine(J8.out _ (Below.refl _ _)).mono ?_);rintro e V8 ⟨⟨W',B1,d1,B2,d2,rfl,oI⟩,hb2⟩;clear l0 l1 l2;have HV8:=hid hb2;clear hb2)
   refine aC λ U3 hU3=>?_;have hb:=(show Below V8.heap.size V8 U3 by rw[hU3];go_grown);have HU3:=hid (au HV8.out hb);have HOR:=hid (show gQ U3 V8.heap.size W' B1 d1 B2 d2 by show U3.heap[_]?=_;rw[hU3];exact at_new _ _ _ rfl);have qfN:=hid (show jm U3 aW B1 d1 W'.stem/\jm U3 aW B2 d2 W'.loop from⟨oI.out.1.any hb,oI.out.2.1.any hb⟩);clear hU3 hb hcv2 hkk hwk J8;obtain⟨rb,hrb⟩:∃x,V8.heap.size=x:=⟨_,rfl⟩;rw[hrb]at HOR;rw[hrb];clear hrb HV8;have HB3:=hid (au Xf.out HU3.out);have qfw:=hid (XR.out.below HB3.out);have qfU:=hid (HWV.out.below HB3.out);have qfx:=hid (HOG.out.below HU3.out)
   have HXG:Hid (∀X:World,Below U3.heap.size U3 X->bI X aW (.agg #[.int .i64 g.op,.string g.name,.int .i64 g.val,.int .i64 g.bound,.slice AG g.args.length cG]) g/\yT X aW (.agg #[.slice B1 W'.stem.length d1,.slice B2 W'.loop.length d2]) W'/\bI X aW (.agg #[.int .i64 f.op,.string f.name,.int .i64 f.val,.int .i64 f.bound,.slice AF f.args.length cF]) f/\yT X aW (.agg #[.slice As W.stem.length cs,.slice Al W.loop.length cl]) W/\ng X aW AS cS l/\GF X/\GK X):=hid λ X hb=>by
    obtain⟨hx1,hx2,hx3,hx4,hx5⟩:=HX.out X (au HB3.out hb);have h1:=HGA2.out;exact⟨⟨AG,cG,rfl,h1.any (au HU3.out hb)⟩,⟨B1,d1,B2,d2,rfl,qfN.out.1.any hb,qfN.out.2.any hb⟩,hx1,hx2,hx3,hx4,hx5⟩
   have aI:Hid (∀X:World,Below U3.heap.size U3 X->(X.cell? ⟨w.heap.size,0,none⟩=some (.int .i64 f.op)/\X.cell? ⟨w.heap.size,1,none⟩=some (.string f.name)/\X.cell? ⟨w.heap.size,2,none⟩=some (.int .i64 f.val)/\X.cell? ⟨w.heap.size,3,none⟩=some (.int .i64 f.bound)/\X.cell? ⟨w.heap.size,4,none⟩=some (.slice AF f.args.length cF))/\(X.cell? ⟨gb,0,none⟩=some (.int .i64 g.op)/\X.cell? ⟨gb,1,none⟩=some (.string g.name)/\X.cell? ⟨gb,2,none⟩=some (.int .i64 g.val)/\X.cell? ⟨gb,3,none⟩=some (.int .i64 g.bound)/\X.cell? ⟨gb,4,none⟩=some (.slice AG g.args.length cG))/\(X.cell? ⟨w.heap.size+1,0,none⟩=some (.slice As W.stem.length cs)/\X.cell? ⟨w.heap.size+1,1,none⟩=some (.slice Al W.loop.length cl))/\X.cell? ⟨rb,0,none⟩=some (.slice B1 W'.stem.length d1)/\X.cell? ⟨rb,1,none⟩=some (.slice B2 W'.loop.length d2)):=hid λ X hb=>by
    obtain⟨a0,a1,a2,a3,a4,_⟩:=(qfw.out.below hb).cells;obtain⟨b0,b1,b2,b3,b4,_⟩:=(qfx.out.below hb).cells;obtain⟨e0,e1,_⟩:=(qfU.out.below hb).cells;obtain⟨f0,f1,_⟩:=(HOR.out.below hb).cells;exact⟨⟨a0,a1,a2,a3,a4⟩,⟨b0,b1,b2,b3,b4⟩,⟨e0,e1⟩,f0,f1⟩
   obtain⟨rs1,rs2,rs3,rs4,rs5,rs6,rs7,rs8⟩:=zS.out;have UH:=hid (show qy (aZ f) (lI l (aZ f) W t) f=g by rw[HL.out,HM.out,HGP.out]);have qdc:=hid (show bf g=true by rw[<-UH.out];exact SI rs8 _);have J3:=hid (show fU g=true by rw[<-UH.out];exact MP rs2 λ x _=>Ku ..);have HGS:=hid (show g.size=f.size by rw[<-UH.out];exact WC ..);have HGKN:=hid (show kP l g by rw[<-UH.out];exact VO f rs4);have HWF:=hid (O1 rs7 rs6 oI.out.2.2)
   have qfM:=hid (show∀i,pU l g W' i=pU l f W (t+i)from λ i=>by
    rw[<-UH.out]
    exact Wu rs8 rs4 (lZ rs7).2.1 oI.out.2.2.1 oI.out.2.2.2.2.2 i)
   obtain⟨q0,hq0⟩:∃r,pU l f W t=r:=⟨_,rfl⟩;obtain⟨q1,hq1⟩:∃r,pU l f W (t+kk)=r:=⟨_,rfl⟩;have HQ0:=hid hq0;have HQ1:=hid hq1;obtain⟨tk,htk⟩:∃x,t+kk=x:=⟨_,rfl⟩;have Ed:=hid htk;have hwtk:IntKind.i64.wrap ((t:Int)+(kk:Int))=(tk:Int):=by rw[IntWalk.i64_in _ (by have:=HAT.out;have:=HKK.out;omega)];omega
   have J5:=hid (row_of f (iG rs8) (by omega) rs4);have LW:=hid (row_of g (iG qdc.out) (by have:=HGS.out;omega) HGKN.out);have EN:=hid (And.intro rs1 (And.intro rs3 (And.intro rs6 rs8)));clear hq0 hq1 htk rs1 rs2 rs3 rs4 rs5 rs6 rs7 rs8
   have Mc:Hid (∀X:World,Below U3.heap.size U3 X->Calls Tryz.prog 29 #[.agg #[.int .i64 g.op,.string g.name,.int .i64 g.val,.int .i64 g.bound,.slice AG g.args.length cG]] X λ e w'=>e = .returned (.bool true)/\Below U3.heap.size U3 w'):=hid λ X hb=>by
    obtain⟨hx1,hx2,hx3,hx4,hx5,hx6,hx7⟩:=HXG.out X hb;refine(AP g _ X hx1 hx6 hx7).mono ?_;rintro e w' ⟨rfl,hb'⟩;exact⟨by rw[J3.out],au hb hb'⟩
   have HC2:Hid (∀X:World,Below U3.heap.size U3 X->Calls Tryz.prog 21 #[.slice AS n cS,.agg #[.int .i64 g.op,.string g.name,.int .i64 g.val,.int .i64 g.bound,.slice AG g.args.length cG],(.agg #[.slice B1 W'.stem.length d1,.slice B2 W'.loop.length d2]),.int .i64 0] X λ e w'=>e = .returned (.bool q0)/\Below U3.heap.size U3 w'):=hid λ X hb=>by
    obtain⟨hx1,hx2,hx3,hx4,hx5,hx6,hx7⟩:=HXG.out X hb;refine(uo l AS cS n g W' _ _ 0 X HN.out hx5 hx1 hx2 hx6 hx7 LW.out qdc.out EN.out.2.1 (by have:=HGS.out;have:=EN.out.1;omega) HWF.out.2 (by omega)).mono ?_;rintro e w' ⟨rfl,hb'⟩;have h0:=qfM.out 0;rw[Nat.add_zero,HQ0.out]at h0;exact⟨by rw[h0],au hb hb'⟩
   have Dk:Hid (∀X:World,Below U3.heap.size U3 X->Calls Tryz.prog 21 #[.slice AS n cS,.agg #[.int .i64 f.op,.string f.name,.int .i64 f.val,.int .i64 f.bound,.slice AF f.args.length cF],.agg #[.slice As W.stem.length cs,.slice Al W.loop.length cl],.int .i64 (t:Int)] X λ e w'=>e = .returned (.bool q0)/\Below U3.heap.size U3 w'):=hid λ X hb=>by
    obtain⟨hx1,hx2,hx3,hx4,hx5,hx6,hx7⟩:=HXG.out X hb;refine(uo l AS cS n f W _ _ t X HN.out hx5 hx3 hx4 hx6 hx7 J5.out EN.out.2.2.2 EN.out.2.1 (by have:=EN.out.1;omega) EN.out.2.2.1 (by have:=HAT.out;omega)).mono ?_;rintro e w' ⟨rfl,hb'⟩;exact⟨by rw[HQ0.out],au hb hb'⟩
   have zN:Hid (∀X:World,Below U3.heap.size U3 X->Calls Tryz.prog 21 #[.slice AS n cS,.agg #[.int .i64 g.op,.string g.name,.int .i64 g.val,.int .i64 g.bound,.slice AG g.args.length cG],(.agg #[.slice B1 W'.stem.length d1,.slice B2 W'.loop.length d2]),.int .i64 (kk:Int)] X λ e w'=>e = .returned (.bool q1)/\Below U3.heap.size U3 w'):=hid λ X hb=>by
    obtain⟨hx1,hx2,hx3,hx4,hx5,hx6,hx7⟩:=HXG.out X hb;refine(uo l AS cS n g W' _ _ kk X HN.out hx5 hx1 hx2 hx6 hx7 LW.out qdc.out EN.out.2.1 (by have:=HGS.out;have:=EN.out.1;omega) HWF.out.2 (by have:=HKK.out;omega)).mono ?_;rintro e w' ⟨rfl,hb'⟩;have h0:=qfM.out kk;rw[HQ1.out]at h0;exact⟨by rw[h0],au hb hb'⟩
   have HC5:Hid (∀X:World,Below U3.heap.size U3 X->Calls Tryz.prog 21 #[.slice AS n cS,.agg #[.int .i64 f.op,.string f.name,.int .i64 f.val,.int .i64 f.bound,.slice AF f.args.length cF],.agg #[.slice As W.stem.length cs,.slice Al W.loop.length cl],.int .i64 (tk:Int)] X λ e w'=>e = .returned (.bool q1)/\Below U3.heap.size U3 w'):=hid λ X hb=>by
    obtain⟨hx1,hx2,hx3,hx4,hx5,hx6,hx7⟩:=HXG.out X hb;refine(uo l AS cS n f W _ _ tk X HN.out hx5 hx3 hx4 hx6 hx7 J5.out EN.out.2.2.2 EN.out.2.1 (by have:=EN.out.1;omega) EN.out.2.2.1 (by have:=HAT.out;have:=HKK.out;have:=Ed.out;omega)).mono ?_;rintro e w' ⟨rfl,hb'⟩;have h0:=HQ1.out;rw[Ed.out]at h0;exact⟨by rw[h0],au hb hb'⟩
   have HI0:=hid (Below.refl U3.heap.size U3);have HI1:=hid (show Below U3.heap.size U3 U3.drew from(Below.refl U3.heap.size U3).drew);have HI2:=hid (show∀i,Below U3.heap.size U3 (U3.drewN i)from λ i=>below_drewN (Below.refl U3.heap.size U3) i);obtain⟨⟨p0,p1,p2,p3,p4⟩,⟨s0,s1,s2,s3,s4⟩,⟨e0,e1⟩,f0,f1⟩:=aI.out U3 (Below.refl _ _);have zb1:=qfw.out.cells.2.2.2.2.2;have zb2:=qfx.out.cells.2.2.2.2.2;have zb3:=qfU.out.cells.2.2;have zb4:=HOR.out.cells.2.2
   go_region_held3 (λ X:World=>(X.cell? ⟨w.heap.size,0,none⟩=some (.int .i64 f.op)/\X.cell? ⟨w.heap.size,1,none⟩=some (.string f.name)/\X.cell? ⟨w.heap.size,2,none⟩=some (.int .i64 f.val)/\X.cell? ⟨w.heap.size,3,none⟩=some (.int .i64 f.bound)/\X.cell? ⟨w.heap.size,4,none⟩=some (.slice AF f.args.length cF))/\(X.cell? ⟨gb,0,none⟩=some (.int .i64 g.op)/\X.cell? ⟨gb,1,none⟩=some (.string g.name)/\X.cell? ⟨gb,2,none⟩=some (.int .i64 g.val)/\X.cell? ⟨gb,3,none⟩=some (.int .i64 g.bound)/\X.cell? ⟨gb,4,none⟩=some (.slice AG g.args.length cG))/\(X.cell? ⟨w.heap.size+1,0,none⟩=some (.slice As W.stem.length cs)/\X.cell? ⟨w.heap.size+1,1,none⟩=some (.slice Al W.loop.length cl))/\X.cell? ⟨rb,0,none⟩=some (.slice B1 W'.stem.length d1)/\X.cell? ⟨rb,1,none⟩=some (.slice B2 W'.loop.length d2))
    (first|(with_reducible exact aI.out _ hI)|(go_keep;done))
    (first
     | (go_at_call 29;(with_reducible refine(Mc.out _ (by first|exact HI0.out|exact HI1.out|exact HI2.out _)).mono ?_);rintro e W9 ⟨rfl,hI⟩)
     | (go_at_call 21;(with_reducible refine(HC2.out _ hI).mono ?_);rintro e W9 ⟨rfl,Uf⟩;clear hI;have hI:=Uf;clear Uf)
     | (go_at_call 21;(with_reducible refine(Dk.out _ hI).mono ?_);rintro e W9 ⟨rfl,Uf⟩;clear hI;have hI:=Uf;clear Uf)
     | (go_at_call 21;(with_reducible refine(zN.out _ hI).mono ?_);rintro e W9 ⟨rfl,Uf⟩;clear hI;have hI:=Uf;clear Uf)
     | (go_at_call 21;(with_reducible refine(HC5.out _ hI).mono ?_);rintro e W9 ⟨rfl,Uf⟩;clear hI;have hI:=Uf;clear Uf))
   all_goals
    have HJ:=hid hI;clear hI p0 p1 p2 p3 p4 s0 s1 s2 s3 s4 e0 e1 f0 f1;go_wp2_with fail
    go_ret
    exact⟨rfl,au aT.out (au HB3.out HJ.out)⟩
end Go.Proofs.YtdpbgcmfeajigaaGreatDoor
