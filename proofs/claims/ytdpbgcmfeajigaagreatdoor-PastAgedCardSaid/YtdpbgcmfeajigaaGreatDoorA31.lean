/-
  Parts of a proof: R2 UV UW KL LG UX ZR ZS.
-/
import Derived.Test.YtdpbgcmfeajigaaGreatDoorA28
import Derived.Test.YtdpbgcmfeajigaaGreatDoorA20
import Derived.Test.YtdpbgcmfeajigaaGreatDoorA30
import Derived.Test.YtdpbgcmfeajigaaGreatDoorA21
import Derived.Test.YtdpbgcmfeajigaaGreatDoorA16
import Derived.Test.YtdpbgcmfeajigaaGreatDoorA18
import Derived.Test.YtdpbgcmfeajigaaGreatDoorA22
set_option linter.unusedSimpArgs false
set_option linter.unusedVariables false
set_option maxHeartbeats 8000000
set_option maxRecDepth 100000
namespace Go.Proofs.YtdpbgcmfeajigaaGreatDoor
def qba (R:Act->World->Prop)(Q:Exit->Act->World->Prop):Exit->Act->World->Prop
 | .normal,a,w=>R a w
 | e,a,w=>Q e a w
def Dh (md:Region.Mode)(n:Nat)(B:Array Oper):Bool:=B.all λ o=>(List.range n).all λ i=>o.after.any λ e=>Region.binds md e&&e.on==i
section
variable {P:Program}{A B:Array Oper}{Q:Exit->Act->World->Prop}{R:Act->World->Prop}{md:Region.Mode}
theorem Pj {n:Nat}(h:Dh md n B=true){o:Oper}(ho:o∈B):∀i,i<n->∃e∈o.after,Region.binds md e=true/\e.on=i:=by
 intro i hi;unfold Dh at h;have h1:=Array.all_eq_true'.1 h o ho;have h2:=List.all_eq_true.1 h1 i (List.mem_range.2 hi);obtain⟨e,he,hb⟩:=Array.any_eq_true'.1 h2;rw[Bool.and_eq_true,beq_iff_eq]at hb;exact⟨e,he,hb.1,hb.2⟩
theorem Jc {l:Array Bool}{k j:Nat}:(l++Array.replicate k false).getD j false=l.getD j false:=by
 by_cases h:j<l.size
 ·simp[Array.getD,h,show j<l.size+k by omega,Array.getElem_append]
 ·by_cases h2:j<l.size+k
  ·simp[Array.getD,h,h2,Array.getElem_append]
  ·simp[Array.getD,h,h2]
theorem Vx {l:Array Bool}{k j:Nat}(h:j<l.size):(l++Array.replicate k false).getD j true=l.getD j true:=by
 simp[Array.getD,h,show j<l.size+k by omega,Array.getElem_append]
theorem Jy {listed:Array Bool}(hs:listed.size=A.size){i k:Nat}(hi:i<A.size):i∈Region.ready md (A++B) (listed++Array.replicate k false) ↔ i∈Region.ready md A listed:=by
 rw[mem_ready,mem_ready,Vx (by omega),Array.getElem?_append_left hi];simp only[Jc]
theorem WH {listed:Array Bool}(hw:Dh md A.size B=true){i k:Nat}(hi:i∈Region.ready md (A++B) (listed++Array.replicate k false))(hnl:¬∀j,j<A.size->listed.getD j false=true):i<A.size:=by
 by_cases h:i<A.size
 ·exact h
 ·exfalso
  apply hnl;intro j hj;obtain⟨_,o,ho,hall⟩:=mem_ready.1 hi;rw[Array.getElem?_append_right (by omega)]at ho;obtain⟨e,he,hb,rfl⟩:=Pj hw (Array.mem_of_getElem? ho) j hj;have:=hall e he hb
  rwa [Jc]at this
theorem qb9 {o:Oper}{a:Act}{w:World}{K K':Act->World->Prop}(h:∀a w,K a w->K' a w)(hh:o.wp P a w K (qba R Q)):o.wp P a w K' Q:=by
 unfold Oper.wp at *
 generalize(execOp a.eval o).run P w=r at *
 cases r with
 | ok n w' =>
  cases n <;> simp only[Oper.upon]at hh⊢ <;>
   first
    | exact h _ _ hh
    | exact Calls.mono hh (λ e w'' he=>by
      cases e with
      | returned u=>exact h _ _ he
      | panicked c=>exact he
      | outgrown=>exact he)
    | exact Rows.mono hh (λ _ _ he=>h _ _ he)
 | halt x w'=>cases x <;> simp only[Oper.upon]at hh⊢ <;> exact hh
theorem Du {listed:Array Bool}(hall:∀i,i<listed.size->listed.getD i false=true):listed=Array.replicate listed.size true:=by
 apply Array.ext
 ·simp
 ·intro i h1 h2
  have:=hall i h1;simp[Array.getD,h1]at this;simp[this]
theorem JQ (hb:yU A=true)(hw:Dh md A.size B=true)(hR:∀a w,R a w->∀f,wpAny P md (A++B) Q (f+B.size) (Array.replicate A.size true++Array.replicate B.size false) a w):∀(fuel:Nat) (listed:Array Bool) (a:Act) (w:World),listed.size=A.size ->
  wpAny P md A (qba R Q) fuel listed a w->wpAny P md (A++B) Q (fuel+B.size) (listed++Array.replicate B.size false) a w
 | 0,listed,a,w,hs,h=>by
  have hall:=nU hs hb h.1;have he:=Du (listed:=listed) (λ i hi=>hall i (by omega));rw[hs]at he;rw[he];exact hR _ _ h.2 0
 | fuel+1,listed,a,w,hs,h=>by
  by_cases hr:Region.ready md A listed = []
  ·have hall:=nU hs hb hr
   have he:=Du (listed:=listed) (λ i hi=>hall i (by omega));rw[hs]at he;rw[he];exact hR _ _ (h.1 hr) (fuel+1)
  ·have hnl:¬∀i,i<A.size->listed.getD i false=true := λ hall=>hr (by
    rcases hr':Region.ready md A listed with _|⟨j,l⟩
    ·rfl
    ·have hj:j∈Region.ready md A listed:=by rw[hr'];exact List.mem_cons_self
     have h3:=(mem_ready.1 hj).1;have h4:=hall j (iQ hj);have h':j<listed.size:=by have:=iQ hj;omega
     simp[Array.getD,h']at h3 h4
     rw[h4]at h3;cases h3)
   rw[show fuel+1+B.size=(fuel+B.size)+1 by omega];refine⟨λ e=>?_,λ i hi=>?_⟩
   ·exfalso
    rcases hr':Region.ready md A listed with _|⟨j,l⟩
    ·exact hr hr'
    ·have hj:j∈Region.ready md A listed:=by rw[hr'];exact List.mem_cons_self
     have:=(Jy (B:=B) (k:=B.size) hs (iQ hj)).2 hj;rw[e]at this;cases this
   ·have hilt:=WH hw hi hnl
    have hi':=(Jy hs hilt).1 hi;have h1:=h.2 i hi';unfold wpOp at h1⊢;rw[Array.getElem?_append_left hilt];rw[Array.getElem?_eq_getElem hilt]at h1⊢;simp only at h1⊢;have hg:=(uQ hb (Array.getElem?_eq_getElem hilt)).1;rw[if_pos (pI hg _)]at h1⊢
    have hset:(listed++Array.replicate B.size false).setIfInBounds i true=listed.setIfInBounds i true++Array.replicate B.size false:=by
     apply Array.ext
     ·simp
     ·intro j h1 h2
      simp only[Array.size_setIfInBounds,Array.size_append]at h1 h2;rw[Array.getElem_setIfInBounds (by simpa using h1),Array.getElem_append,Array.getElem_append]
      by_cases hj:j<listed.size
      ·rw[dif_pos hj,dif_pos (by simpa using hj),Array.getElem_setIfInBounds (by simpa using hj)]
      ·rw[dif_neg hj,dif_neg (by simpa using hj),if_neg (by omega)]
       simp
    rcases h1 with h1|⟨h1,h2⟩
    ·refine .inl (qb9 (λ a' w' hk=>?_) h1)
     rw[hset];exact JQ hb hw hR fuel _ a' w' (by rw[Array.size_setIfInBounds];exact hs) hk
    ·exact .inr ⟨h1,h2⟩
def Yd (P:Program)(L:List Oper)(n:Nat)(Q:Exit->Act->World->Prop)(a:Act)(w:World):Prop :=
 ∀f,∃S:World->Prop,S w/\wpAnyH P .any L.toArray Q S (f+(L.length-n)) (Array.replicate n true++Array.replicate (L.length-n) false) a w
theorem Pn {L:List Oper}{n:Nat}(hn:n<=L.length)(hb:yU (L.take n).toArray=true)(hw:Dh .any n (L.drop n).toArray=true){a:Act}{w:World}(S:World->Prop)(hS:S w)
  (h:S w->wpAnyH P .any (L.take n).toArray (qba (Yd P L n Q) Q) S n (Array.replicate n false) a w):wpAny P .any L.toArray Q L.toArray.size (Array.replicate L.toArray.size false) a w:=by
 have hl:(L.take n).toArray.size=n:=by simp[Nat.min_eq_left hn]
 have hd:(L.drop n).toArray.size=L.length-n:=by simp
 have e:L.toArray=(L.take n).toArray++(L.drop n).toArray:=by rw[List.append_toArray,List.take_append_drop]
 have h1:=wpAny_of_held _ _ _ _ (h hS)
 have key:=JQ (P:=P) (md := .any) (A:=(L.take n).toArray) (B:=(L.drop n).toArray) (Q:=Q) (R:=Yd P L n Q) hb (by rw[hl];exact hw) (λ a w hq f=>by
  obtain⟨S',hS',hh⟩:=hq f;rw[hl,hd,<-e]
  exact wpAny_of_held _ _ _ _ hh) n (Array.replicate n false) a w (by rw[hl];simp) h1
 rw[<-e,hd]at key;have e2:L.toArray.size=n+(L.length-n):=by simp;omega
 rw[e2]
 have e3:Array.replicate (n+(L.length-n)) false=Array.replicate n false++Array.replicate (L.length-n) false:=by
  apply Array.ext
  ·simp
  ·intro i h1 h2;simp[Array.getElem_append]
 rw[e3];exact key
theorem Di {id l m n:Nat}{L:List Oper}{a:Act}{w:World}(S:World->Prop)(hm:P.follows .mixedOrders=true)(hd:rX L.toArray=true)(hQ:¬LetsOut Q)(hn:n<=L.length)(hb:yU (L.take n).toArray=true)(hw:Dh .any n (L.drop n).toArray=true)(hS:S w.drew)
  (h:S w.drew->wpAnyH P .any (L.take n).toArray (qba (Yd P L n Q) Q) S n (Array.replicate n false) a w.drew):(Code.region id L.toArray true).wpIn (Fence.wide.inRound l) m P Q a w :=
 nP hm hd hQ (Pn hn hb hw S hS h)
end
end Go.Proofs.YtdpbgcmfeajigaaGreatDoor
namespace Go.Proofs.YtdpbgcmfeajigaaGreatDoor
open Go.RowKit Go.Shelf
attribute [local go_sem] ak run_store_func Oper.semAt_some
theorem KR (D:Dom)(x:Fm)(b o:Nat)(A:Option Addr)(c:Nat)(w:World)(h:dU w D b o x A c) :
  Calls Tryz.prog 46 #[.pointer (some ⟨b,o,none⟩)] w λ e w'=>e = .returned (.int .i64 x.val)/\Below w.heap.size w w':=by
 obtain⟨_,q1,_,_,p2,_,_,_⟩:=h
 go_enter Tryz.func46,Tryz.ntmps46
 go_wp2_with fail
 go_ret
 exact⟨rfl,by first|exact Below.refl _ _|go_grown⟩
theorem Sr (w0:World):qdM 46 #[] Fm.val (λ _=>True) w0 :=
 ⟨enters_of Tryz.func46 (by kernel_rfl) rfl,λ D x b o A c W _ _ h=>KR D x b o A c W h⟩
theorem zH:∀{l:List Fm},(∀g,g∈l->(aY g).length<=g.size)->(dM l).length<=sizes l
 | [],_=>Nat.le_refl _
 | f :: l,h=>by
  have h1:=h f (by simp);have h2:=zH (l:=l) λ g hg=>h g (by simp[hg]);rw[dM,sizes,List.length_append];omega
theorem yH (f:Fm):(aY f).length<=f.size:=by
 refine Fm.pW (P := λ f=>(aY f).length<=f.size) ?_ f;intro f ih;have:=zH ih;rw[xu,Fm.size_eq,List.length_append]
 split <;> simp <;> omega
theorem Ic {g n c:Nat}:(Value.slice (some ⟨g,0,none⟩) n c).ownBlock=some g:=rfl
theorem MX {wA w7:World}{base s1 cx c7:Nat}{X A7:Option Addr}{R:List Fm}{sl:List (Option Addr×Nat)}{g':Fm}{A2:Option Addr}{c2:Nat}(hf:bT wA base X cx R sl)(rQ:w7.ownsRow base 24 5 (.slice A7 (R.length+1) c7) (R.length+1) (bQ R sl++qc))(vV:wA.grownBy w7 (Value.slice X R.length cx).ownBlock)
  (Au:(Value.slice A7 (R.length+1) c7).ownBlock=(Value.slice X R.length cx).ownBlock\/(Value.slice A7 (R.length+1) c7).ownBlock=some wA.heap.size) (ha:bZ wA (Nw s1 wA) g'.args A2 c2) (hs:base<=s1) (hge:∀k,(Value.slice X R.length cx).ownBlock=some k->k<s1) :
  ∃g,A7=some ⟨g,0,none⟩/\base<=g/\bT w7 base A7 c7 (R ++ [dV]) (sl ++ [(none,0)])/\bZ w7 (λ k=>Nw base w7 k/\k≠g) g'.args A2 c2/\g<w7.heap.size:=by
 have Xo:bT w7 base A7 c7 (R ++ [dV]) (sl ++ [(none,0)]):=by
  refine bT.app (n:=R.length+1) hf vV (by simp) ?_ Au rfl λ i hi=>?_
  ·have:bQ [dV] [(none,0)]=qc:=rfl
   rw[this];exact rQ
  ·have hi0:i=0:=by simpa using hi
   subst hi0;exact bZ.nil _ _ _ (Nat.zero_le _)
 rcases rQ.2 with⟨_,h0⟩|⟨g,cap,cur,hv,hb,hg,_⟩
 ·omega
 ·injection hv with e1 e2 e3
  subst e1;refine⟨g,rfl,hb,Xo,?_,lt_of_block hg⟩;refine((ha.mono (E := λ k=>Nw s1 wA k/\k<wA.heap.size) λ k hk hl=>⟨hk,hl⟩).keep (w':=w7) ⟨vV.size,λ k hk hl=>vV.block k hl (λ e=>by have:=hge k e.symm;have:=hk.1.1;omega)⟩).mono λ k hk _=>⟨⟨by have:=hk.1.1;omega,hk.1.2.of_eq (vV.block k hk.2 (λ e=>by have:=hge k e.symm;have:=hk.1.1;omega))⟩,λ e=>?_⟩;subst e;rw[Ic]at Au
  rcases Au with e|e
  ·have:=hge _ e.symm;have:=hk.1.1;omega
  ·injection e with e;have:=hk.2;omega
theorem JE {R:List Fm}{g':Fm}:(R ++ [dV]).set R.length g'=R ++ [g']:=by simp
theorem JF {R:List Fm}{sl:List (Option Addr×Nat)}{x:Option Addr×Nat}(h:sl.length=R.length):(sl ++ [(none,0)]).set R.length x=sl ++ [x]:=by rw[<-h];simp
def Uz (w:World)(b o:Nat)(f:Fm)(A:Option Addr)(d:Nat):World:=((((w.setCell ⟨b,o,none⟩ (.int .i64 f.op)).setCell ⟨b,o+1,none⟩ (.string f.name)).setCell ⟨b,o+2,none⟩ (.int .i64 f.val)).setCell ⟨b,o+3,none⟩ (.int .i64 f.bound)).setCell ⟨b,o+4,none⟩ (.slice A f.args.length d)
theorem JD (w:World)(b o:Nat)(f:Fm)(A:Option Addr)(d:Nat):aH (λ x=>x=b) w (Uz w b o f A d):=GI _ _ _ _ _ _ _ _
def Xv (w7 W:World)(base ob c7:Nat)(A7:Option Addr)(R:List Fm)(g':Fm)(sl:List (Option Addr×Nat)):Prop :=
 W.heap[ob]?=some (.cells #[.slice A7 (R ++ [g']).length c7] 22 (0,0))/\bT W base A7 c7 (R ++ [g']) sl/\aH (λ b=>b=ob\/base<=b) w7 W
theorem MV {w7:World}{base ob c7 cx g:Nat}{X:Option Addr}{R:List Fm}{sl:List (Option Addr×Nat)}{g':Fm}{A2:Option Addr}{c2:Nat}(hF:bT w7 base (some ⟨g,0,none⟩) c7 (R ++ [dV]) (sl ++ [(none,0)]))(hl:sl.length=R.length)(ha:bZ w7 (λ k=>Nw base w7 k/\k≠g) g'.args A2 c2)(hg:base<=g)
  (hob:w7.heap[ob]?=some (.cells #[.slice X R.length cx] 22 (0,0))) (hobb:ob<base) :
  Xv w7 ((Uz w7 g (R.length*5) g' A2 c2).setCell ⟨ob,0,none⟩ (.slice (some ⟨g,0,none⟩) (R.length+1) c7)) base ob c7 (some ⟨g,0,none⟩) R g' (sl ++ [(A2,c2)]):=by
 have h1:=hF.set (i:=R.length) (by simp) g' A2 c2 ha;rw[JE,JF hl]at h1;have hc5:=JD w7 g (R.length*5) g' A2 c2;have hc8:=(aH.refl (λ b=>b=ob) (Uz w7 g (R.length*5) g' A2 c2)).set ⟨ob,0,none⟩ (.slice (some ⟨g,0,none⟩) (R.length+1) c7) λ _=>rfl;refine⟨?_,bT.eu h1 hc8 (λ k hk=>by have hk':k=ob:=hk;omega),(hc5.mono λ b _ h => .inr (by have h':b=g:=h;omega)).trans (hc8.mono λ b _ h => .inl h)⟩;rw[aB (hc5.box hob (by show¬ob=g;omega)),List.length_append];rfl
theorem MW {w7:World}{base ob c7 cx g:Nat}{X:Option Addr}{R:List Fm}{sl:List (Option Addr×Nat)}{g':Fm}{A2:Option Addr}{c2:Nat}(hF:bT w7 base (some ⟨g,0,none⟩) c7 (R ++ [dV]) (sl ++ [(none,0)]))(hl:sl.length=R.length)(ha:bZ w7 (λ k=>Nw base w7 k/\k≠g) g'.args A2 c2)(hg:base<=g)
  (hob:w7.heap[ob]?=some (.cells #[.slice X R.length cx] 22 (0,0))) (hobb:ob<base) :
  Xv w7 (Uz (w7.setCell ⟨ob,0,none⟩ (.slice (some ⟨g,0,none⟩) (R.length+1) c7)) g (R.length*5) g' A2 c2) base ob c7 (some ⟨g,0,none⟩) R g' (sl ++ [(A2,c2)]):=by
 obtain⟨w8,hw8⟩:∃w8,w8=w7.setCell ⟨ob,0,none⟩ (.slice (some ⟨g,0,none⟩) (R.length+1) c7):=⟨_,rfl⟩;have hc8:aH (λ b=>b=ob) w7 w8:=by rw[hw8];exact(aH.refl (λ b=>b=ob) w7).set ⟨ob,0,none⟩ _ λ _=>rfl
 have hob8:w8.heap[ob]?=some (.cells #[.slice (some ⟨g,0,none⟩) (R.length+1) c7] 22 (0,0)):=by rw[hw8,aB hob];rfl
 have hF8:=hF.eu hc8 (λ k hk=>by have hk':k=ob:=hk;omega)
 have ha8:bZ w8 (λ k=>Nw base w8 k/\k≠g) g'.args A2 c2:=by
  have hk:Keeps (λ k=>Nw base w7 k/\k≠g) w7 w8:=hc8.keeps λ k _ hk hv=>by have hv':k=ob:=hv;have:=hk.1.1;omega
  exact(ha.keep hk).mono λ k hk' hl'=>⟨⟨hk'.1.1,hk'.1.2.of_eq (hk.block k hk' hk'.1.2.lt)⟩,hk'.2⟩
 rw[<-hw8];have h1:=hF8.set (i:=R.length) (by simp) g' A2 c2 ha8;rw[JE,JF hl]at h1;have hc5:=JD w8 g (R.length*5) g' A2 c2;refine⟨?_,h1,(hc8.mono λ b _ h => .inl h).trans (hc5.mono λ b _ h => .inr (by have h':b=g:=h;omega))⟩;rw[hc5.box hob8 (by show¬ob=g;omega),List.length_append];rfl
theorem Jq {D:Dom}(f:Fm)(v:Value)(w:World)(h:bI w D v f)(hg:GF w)(hk:GK w) :
  Calls Tryz.prog 10 #[v] w λ e w'=>∃A c,e = .returned (.slice A (aZ f).length c)/\bZ w' (Nw w.heap.size w') (aZ f) A c/\Below w.heap.size w w':=by
 obtain⟨A,c,rfl,ha⟩:=h;have HA:=hid ha.old;have HG:=hid hg;have HK:=hid hk;clear ha hg hk;refine(callsIn_wide (n:=3)).1 (callsIn_of_wp_marks Tryz.func10 rfl trivial ?_ rfl);simp only[Tryz.ntmps10,List.size_toArray,List.length_cons,List.length_nil,Nat.reduceAdd,Nat.reduceSub,Array.replicate_succ,Array.replicate_zero,List.push_toArray,List.append_toArray,List.nil_append,List.cons_append];refine wpIn_wide.2 ?_;go_upto_region 1 with(fail)
 refine aC λ W hW=>?_;have HB:=hid (show Below w.heap.size w W by rw[hW];go_grown);have HE:=hid (show dH W w.heap.size f A c by show W.heap[w.heap.size]?=_;rw[hW];exact at_new _ _ _ rfl);have BL:=hid (show W.heap.size=w.heap.size+1 by rw[hW];simp);clear hW;have EN:Hid (dU W (· < w.heap.size+1) w.heap.size 0 f A c):=hid (dH.yN HE.out (Nat.lt_succ_self _) ((HA.out.keep (Keeps.of_below HB.out λ _ h=>h)).mono λ k hk _=>Nat.lt_succ_of_lt hk));have sW:=hid (zG f w.heap.size 0 A c W EN.out (HG.out.below HB.out HG.out.pos) (HK.out.below HB.out HK.out.pos));obtain⟨lo,hlo⟩:∃r,bf f=r:=⟨_,rfl⟩;have LU:=hid hlo;rw[hlo]at sW;clear hlo;cases lo
 ·have HZ:=hid (show aZ f = []by unfold aZ;rw[LU.out];rfl)
  go_wp2_with (go_at_call 42;(with_reducible refine sW.out.mono ?_);rintro e W1 ⟨rfl,hb1⟩;have HB1:=hid hb1;clear hb1)
  refine zB (ds := []) rfl (oP.nil _) (v := .slice none 0 0) (λ w' hc'=>?_) (λ w' hc'=>⟨none,0,by rw[HZ.out];rfl,by rw[HZ.out];exact bZ.nil _ _ _ (by omega),(au HB.out HB1.out).trans (hc'.below (λ b hb h=>by cases h) (au HB.out HB1.out).size)⟩);simp[results,Tryz.results10,go_sem]
 ·have HZ:=hid (vk LU.out)
  have jI:=hid (show f.size<=400 from(iI LU.out).1);go_upto_region 4 with(go_at_call 42;(with_reducible refine sW.out.mono ?_);rintro e W1 ⟨rfl,hb1⟩;have HB1:=hid hb1;clear hb1)
  refine aC λ V hV=>?_;have qdo:=hid (show V.heap[W1.heap.size]?=some (.cells #[.slice none 0 0] 22 (0,0))by rw[hV];exact at_new _ _ _ rfl);have hb2:Below W1.heap.size W1 V:=by rw[hV];go_grown
  have iD:=hid (au HB1.out hb2);have BK:=hid (show V.heap.size=W1.heap.size+1 by rw[hV];simp);clear hV hb2;obtain⟨ob,hob⟩:∃x,W1.heap.size=x:=⟨_,rfl⟩;have MI:=hid (show w.heap.size+1<=ob by rw[<-hob];have:=HB1.out.size;have:=BL.out;omega);rw[hob]at qdo BK⊢;clear hob;go_wp2_with (first|(go_at_call 43;refine(sQ _ V).mono ?_;rintro e w2 ⟨rfl,rfl⟩))
  refine aC λ W2 hW2=>?_;have hb2:Below V.heap.size V W2:=by rw[hW2];go_grown
  have HP2:=hid (show W2.cell? ⟨V.heap.size,0,none⟩=some (.pointer (some ⟨w.heap.size,0,none⟩))by rw[hW2];exact aj (at_new _ _ _ rfl) (i:=0) rfl);have HS2:=hid (show W2.heap.size=ob+2 by rw[hW2];simp;have:=BK.out;omega);have HB2:=hid (au HB.out (au iD.out hb2));have Dl:=hid ((hb2.block _ (lt_of_block qdo.out)).trans qdo.out);have HF2:=hid (EN.out.keep (Keeps.of_below (au iD.out hb2) λ k (hk:k<w.heap.size+1)=>by have:=BL.out;omega));clear hW2 hb2
  refine zJ f w.heap.size 0 V.heap.size (w.heap.size+1) A c (λ b=>b=ob\/W2.heap.size+4<=b)
   (λ k W'=>∃X cx sl,W'.heap[ob]?=some (.cells #[.slice X (gX [] ((aY f).take k)).length cx] 22 (0,0))/\bT W' (W2.heap.size+4) X cx (gX [] ((aY f).take k)) sl)
   rfl rfl HF2.out (by have:=HS2.out;have:=MI.out;omega) HP2.out ?hZ ?hI ⟨none,0,[],Dl.out,bT.nil _ _⟩ ?a1 ?hassign ?dY ?hdone
  case hassign =>
   intro l p W K hK
   gi_wp2
   exact hK
  case hZ=>intro b hb;have:=HS2.out;have:=MI.out;rcases hb with h|h <;> exact⟨by omega,by omega⟩
  case hI =>
   rintro k W3 W4 ⟨X,cx,sl,h1,h2⟩ hc;exact⟨X,cx,sl,hc.box h1 (by have:=HS2.out;omega),h2.eu hc λ k hk=>hk.2⟩
  case dY =>
   rintro l k W3 b' o' A3 c3 hs3 hc3 ⟨X,cx,sl,h1,h2⟩ hlen hf3 _;obtain⟨x,hx⟩:∃x,x=(aY f).getD k default:=⟨_,rfl⟩;rw[<-hx]at hf3;obtain⟨R,hR⟩:∃R,R=gX [] ((aY f).take k):=⟨_,rfl⟩;rw[<-hR]at h1 h2;have HNX:=hid (show gX [] ((aY f).take (k+1))=sJ R x by rw[bP _ default hlen,nD,Jb,hR,hx]);have hxm:x∈aY f:=by rw[hx];exact dA hlen
   have hxs:x.size<=400:=Nat.le_trans (Gm hxm) jI.out
   have HRS:=hid (show∀y,y∈R->y.size<=1000000 from λ y hy=>by
    rw[hR,xZ]at hy
    rcases hy with hy|hy
    ·cases hy
    ·have:=Gm (List.mem_of_mem_take hy);have:=jI.out;omega)
   have pK:=hid (show R.length<=400 by
    have h3:=(uh ((aY f).take k) []).2;have h4:=yH f;have:=jI.out;rw[<-hR,List.length_take]at h3
    simp at h3;omega)
   have MB:=hid h2;have XP:=hid h1;have HF3:=hid hf3;have HXS:=hid hxs;have hob:=lt_of_block h1;have s0:=aj h1 (i:=0) rfl;have yQ:=hid (uf R X cx R.length x b' o' A3 c3 W3 rfl (h2.rd (by have:=pK.out;omega)) hf3 HRS.out (.inl λ _ h=>h.2));have NQ:Fence.wide.fn 44:=trivial;have hfd:Fence.wide.depth=none:=rfl;obtain⟨fz,hfz⟩:∃fz,findF R x=fz:=⟨_,rfl⟩;rw[hfz]at yQ
   by_cases hmx:x∈R
   ·have hz2:¬fz<0:=by rw[<-hfz];unfold findF;rw[if_pos hmx];omega
    have BH:=hid (show gX [] ((aY f).take (k+1))=R by rw[HNX.out];unfold sJ;rw[if_pos hmx]);clear hx hR hlen hxm hxs hfz hmx h1 h2 hf3
    gi_wp2_with (gi_at_call 44;(refine(CallsIn.inRound l (callsIn_wide.2 yQ.out)).mono ?_);rintro e W4 ⟨rfl,hb4⟩)
    refine⟨aH.aS hb4.below,X,cx,sl,?_,?_⟩
    ·rw[BH.out];exact(hb4.below.block _ (lt_of_block XP.out)).trans XP.out
    ·rw[BH.out];exact MB.out.eu (aH.aS (V := λ _=>False) hb4.below) λ _ h=>h.elim
   ·have hz2:fz<0:=by rw[<-hfz];unfold findF;rw[if_neg hmx];omega
    have BH:=hid (show gX [] ((aY f).take (k+1))=R ++ [x]by rw[HNX.out];unfold sJ;rw[if_neg hmx]);have HXM:=hid hxm;clear hx hR hlen hxm hxs hfz hmx h1 h2 hf3
    gi_upto_region 7 with(gi_at_call 44;(refine(CallsIn.inRound l (callsIn_wide.2 yQ.out)).mono ?_);rintro e W4 ⟨rfl,hb4⟩;have HB4:=hid hb4.below;clear hb4)
    have UQ:=hid ((HB4.out.block _ (lt_of_block XP.out)).trans XP.out);have HF4:=hid (HF3.out.keep (Keeps.of_below HB4.out λ k (hk:k<w.heap.size+1)=>by have:=MI.out;omega));have qc9:=hid (MB.out.eu (aH.aS (V := λ _=>False) HB4.out) λ _ h=>h.elim);have Xl:=hid (show W2.heap.size+4<=W4.heap.size from Nat.le_trans hs3 HB4.out.size);have UH:=hid (show∀k,(Value.slice X R.length cx).ownBlock=some k->W2.heap.size+4<=k/\k<W4.heap.size from λ k hk=>qc9.out.ge hk)
    have HCH:Hid (∀W,Below W4.heap.size W4 W->Calls Tryz.prog 45 #[.pointer (some ⟨b',o',none⟩),.func (.func 46) #[] #[]] W λ e w'=>∃A2 c2,e = .returned (.agg #[.int .i64 x.op,.string x.name,.int .i64 x.val,.int .i64 x.bound,.slice A2 x.args.length c2])/\bZ w' (Nw W4.heap.size w') x.args A2 c2/\Below W4.heap.size W4 w'/\Below W.heap.size W w'):=hid λ W hb=>by
     refine(DC (Sr W) x (λ _ _=>trivial) (by have:=HXS.out;omega) _ b' o' A3 c3 W (Below.refl _ _) (HF4.out.keep (Keeps.of_below hb λ k (hk:k<w.heap.size+1)=>by have:=MI.out;have:=Xl.out;have:=HS2.out;omega))).mono ?_;rintro e w' ⟨v,rfl,hb',A2,c2,rfl,ha2⟩;rw[U5]at ha2⊢;exact⟨A2,c2,rfl,ha2.base hb.size,au hb hb',hb'⟩
    have c0:=aj UQ.out (i:=0) rfl;have aI:Hid (∀W':World,Below W4.heap.size W4 W'->W'.cell? ⟨ob,0,none⟩=some (.slice X R.length cx)):=hid λ W' hb=>aj ((hb.block _ (lt_of_block UQ.out)).trans UQ.out) (i:=0) rfl;obtain⟨i0,hti,hz0,hz1,hz2'⟩:=info_parts je;clear s0 hz2;refine Di (n:=6) (λ W':World=>W'.cell? ⟨ob,0,none⟩=some (.slice X R.length cx)) (by kernel_rfl) (by kernel_rfl) (λ h=>by obtain⟨_,_,h⟩:=h;exact h) (by simp) (by kernel_rfl) (by kernel_rfl) c0 (λ hHeld=>?_);simp only[List.take_succ_cons,List.take_zero,List.length_cons,List.length_nil,Nat.reduceAdd,Nat.reduceSub];clear c0;refine dS 0 ?_ rfl (by kernel_rfl) (λ _ _ _ h=>h) ?_ (by assumption) ?_
    rotate_left
    ·intro w hSw;(try dsimp only at hSw);go_simp;(try(with_reducible rfl))
    try simp only[Act.put,bn,bC,bD]
    refine dS 1 ?_ rfl (by kernel_rfl) (λ _ _ _ h=>h) ?_ (by assumption) ?_
    rotate_left
    ·intro w hSw;(try dsimp only at hSw);go_simp;(try(with_reducible rfl))
    try simp only[Act.put,bn,bC,bD]
    refine dS 3 ?_ rfl (by kernel_rfl) (λ _ _ _ h=>h) ?_ (by assumption) ?_
    rotate_left
    ·intro w hSw;(try dsimp only at hSw);go_simp;(try(with_reducible rfl))
    try simp only[Act.put,bn,bC,bD]
    refine wpAnyH_ready (rs := [2,4]) (by kernel_rfl) (by simp) (AllReadyH.cons rfl (λ K hK=>?_) (AllReadyH.cons rfl (λ K hK=>?_) AllReadyH.nil))
    ·go_simp
     (go_at_call 45;(with_reducible refine(HCH.out _ ?_).mono ?_);exact(Below.refl _ _).drew;rintro e V1 ⟨A2,c2,rfl,ha2,hb1,hb1'⟩;have sH:=hid hb1;have X6:=hid hb1';have HA2:=hid ha2;clear hb1 ha2 hb1')
     go_wp2_with fail
     refine hK.out _ _ ?_ (λ hHeld=>?_)
     ·exact aI.out _ sH.out
     clear hK K
     try simp only[Act.put,bn,bC,bD]
     refine lK 4 (by kernel_rfl) rfl λ K hK=>?_
     go_simp
     refine hK.out _ _ ?_ (λ hHeld=>?_)
     ·exact aI.out _ (sH.out.alloc sH.out.size _)
     clear hK K
     try simp only[Act.put,bn,bC,bD]
     refine dR (λ wA hwA hHeld=>?_) hHeld;have LY:Below V1.heap.size V1 wA:=by rw[hwA];exact(Below.refl _ _).alloc (Nat.le_refl _) _
     have VJ:Rd wA aW 5 (some ⟨V1.heap.size,0,none⟩) 1 1 qc:=by rw[hwA];exact Rd.fresh (D:=aW) rfl trivial (by simp) (by omega)
     have uJ:=hid (au sH.out LY);have pJ:=hid (show bZ wA (Nw W4.heap.size wA) x.args A2 c2 from((HA2.out.mono (E := λ k=>Nw W4.heap.size V1 k/\k<V1.heap.size) λ k hk hl=>⟨hk,hl⟩).keep (Keeps.of_below LY λ _ h=>h.2)).mono λ k hk _=>⟨hk.1.1,hk.1.2.of_eq (LY.block k hk.2)⟩);have hfA:=qc9.out.eu (aH.aS (V := λ _=>False) uJ.out) λ _ h=>h.elim;have HFA:=hid hfA;have FU:=hfA.own;clear hwA hfA;refine lK 5 (by kernel_rfl) rfl λ K hK=>?_
     refine dG _ (by rfl) _ _ 22 (by rfl) (W2.heap.size+4) 24 i0 _ 5 64 Tryz.underlying22 hti hz0 hz1 hz2' rfl (by omega) (.slice X R.length cx) R.length _ (by rfl) FU _ (some ⟨V1.heap.size,0,none⟩) 1 1 _ (by rfl) VJ (by simp[Value.oneCell',qc]) (by have:=pK.out;omega) (dJ (by have:=pK.out;omega)) (by have:=uJ.out.size;have:=Xl.out;omega) ?_;intro A7 c7 w7 rQ vV Au;obtain⟨gb,rfl,hgb,Xo,hA7,hgl⟩:=MX HFA.out rQ vV Au pJ.out (by have:=Xl.out;omega) (λ k hk=>(UH.out k hk).2);have hne:∀k',(Value.slice X R.length cx).ownBlock=some k'->W2.heap.size+4<=k' := λ k' hk'=>(UH.out k' hk').1
     have Jg:w7.heap[ob]?=some (.cells #[.slice X R.length cx] 22 (0,0)):=(vV.block ob (Nat.lt_of_lt_of_le (lt_of_block UQ.out) uJ.out.size) (λ e=>by have:=hne _ e.symm;have:=HS2.out;omega)).trans ((uJ.out.block _ (lt_of_block UQ.out)).trans UQ.out);have TF:=hid (show aH (λ b=>b=ob\/W2.heap.size+4<=b) W3 w7 from(aH.aS (au HB4.out uJ.out)).trans ⟨vV.os,vV.tape,vV.output,vV.size,λ b hb hv=>vV.block b hb (λ e=>hv (.inr (hne _ e.symm)))⟩);refine hK.out _ _ ?_ (λ hHeld=>?_)
     ·exact aj Jg (i:=0) rfl
     clear hK K
     try simp only[Act.put,bn,bC,bD]
     obtain⟨_,_,f',_,_,u0,u1,u2,u3,u4,v0,v1,v2,v3,v4,gl2,_⟩:=Xo.get (i:=R.length) (by simp);have z0:=aj Jg (i:=0) rfl;have z1:=aA Jg (i:=0);have z2:=lt_of_block Jg;have hRl:(R.length:Int)<((R.length+1:Nat):Int):=by omega
     have hRl2:(R.length:Int)<(R.length:Int)+1:=by omega
     have HF7:=hid Xo;have HA7:=hid hA7;have HO7:=hid Jg;have HGB:=hid hgb;have hog:¬ob=gb:=by have:=HS2.out;omega
     have hgo:¬gb=ob := λ e=>hog e.symm;clear Xo hA7 Jg hgb rQ vV Au hne FU VJ hHeld;refine wpAnyH_done (by kernel_rfl) ?_ _;intro ff;refine⟨λ _=>True,trivial,?_⟩;simp only[List.length_cons,List.length_nil,Nat.reduceAdd,Nat.reduceSub];refine wpAnyH_take (i:=6) (v:=?_) rfl (by kernel_rfl) (by kernel_rfl) (by kernel_rfl) (λ _ _ _ h=>h) (Or.inl ⟨by rfl,?_⟩) trivial ?_
     rotate_left
     ·intro w hSw;(try dsimp only at hSw);go_simp;(try(with_reducible rfl))
     try simp only[Act.put,bn,bC,bD]
     refine wpAnyH_ready (rs := [7,8]) (by kernel_rfl) (by simp) (AllReadyH.cons rfl (λ K hK=>?_) (AllReadyH.cons rfl (λ K hK=>?_) AllReadyH.nil))
     ·go_simp
      refine hK.out _ _ trivial (λ _=>?_);clear hK K
      try simp only[Act.put,bn,bC,bD]
      refine lK 8 (by kernel_rfl) rfl λ K hK=>?_
      go_simp
      refine hK.out _ _ trivial (λ _=>?_);clear hK K
      try simp only[Act.put,bn,bC,bD]
      refine wpAnyH_done (by kernel_rfl) ?_ _;have hen:=MV (X:=X) (cx:=cx) HF7.out MB.out.len HA7.out HGB.out HO7.out (by have:=HS2.out;omega);refine⟨TF.out.trans hen.2.2,some ⟨gb,0,none⟩,c7,_,by rw[BH.out];exact hen.1,by rw[BH.out];exact hen.2.1⟩
     ·go_simp
      refine hK.out _ _ trivial (λ _=>?_);clear hK K
      try simp only[Act.put,bn,bC,bD]
      refine lK 7 (by kernel_rfl) rfl λ K hK=>?_
      go_simp
      refine hK.out _ _ trivial (λ _=>?_);clear hK K
      try simp only[Act.put,bn,bC,bD]
      refine wpAnyH_done (by kernel_rfl) ?_ _;have hen:=MW (X:=X) (cx:=cx) HF7.out MB.out.len HA7.out HGB.out HO7.out (by have:=HS2.out;omega);refine⟨TF.out.trans hen.2.2,some ⟨gb,0,none⟩,c7,_,by rw[BH.out];exact hen.1,by rw[BH.out];exact hen.2.1⟩
    ·go_simp
     refine hK.out _ _ ?_ (λ hHeld=>?_)
     ·exact aI.out _ ((Below.refl _ _).drew.alloc (Nat.le_refl _) _)
     clear hK K
     try simp only[Act.put,bn,bC,bD]
     refine dR (λ wB hwB hHeld=>?_) hHeld;have hbB:Below W4.heap.size W4 wB:=by rw[hwB];exact(Below.refl _ _).drew.alloc (Nat.le_refl _) _
     have hzB:wB.heap[W4.heap.size]?=some (.cells #[.int .i64 0,.string ⟨#[]⟩,.int .i64 0,.int .i64 0,.slice none 0 0] 24 (0,0)):=by rw[hwB];exact at_new _ _ _ rfl
     have vO:=hid hbB;have wI:=hid (show Rd wB aW 5 (some ⟨W4.heap.size,0,none⟩) 1 1 qc by rw[hwB];exact Rd.fresh (D:=aW) rfl trivial (by simp) (by omega));have HZB:=hid hzB;clear hwB hbB hzB;refine lK 2 (by kernel_rfl) rfl λ K hK=>?_
     go_simp
     (go_at_call 45;(with_reducible refine(HCH.out _ ?_).mono ?_);exact vO.out;rintro e V1 ⟨A2,c2,rfl,ha2,hb1,hb1'⟩;have sH:=hid hb1;have X6:=hid hb1';have HA2:=hid ha2;clear hb1 ha2 hb1')
     go_wp2_with fail
     refine hK.out _ _ ?_ (λ hHeld=>?_)
     ·exact aI.out _ sH.out
     clear hK K
     try simp only[Act.put,bn,bC,bD]
     have VJ:Rd V1 aW 5 (some ⟨W4.heap.size,0,none⟩) 1 1 qc:=(wI.out.old.keep (Keeps.of_below X6.out λ _ h=>h)).mono λ _ _ _=>trivial;have uJ:=hid sH.out;have pJ:=hid HA2.out;have hfA:=qc9.out.eu (aH.aS (V := λ _=>False) uJ.out) λ _ h=>h.elim;have HFA:=hid hfA;have FU:=hfA.own;clear hfA;refine lK 5 (by kernel_rfl) rfl λ K hK=>?_;refine dG _ (by rfl) _ _ 22 (by rfl) (W2.heap.size+4) 24 i0 _ 5 64 Tryz.underlying22 hti hz0 hz1 hz2' rfl (by omega) (.slice X R.length cx) R.length _ (by rfl) FU _ (some ⟨W4.heap.size,0,none⟩) 1 1 _ (by rfl) VJ (by simp[Value.oneCell',qc]) (by have:=pK.out;omega) (dJ (by have:=pK.out;omega)) (by have:=uJ.out.size;have:=Xl.out;omega) ?_;intro A7 c7 w7 rQ vV Au
     obtain⟨gb,rfl,hgb,Xo,hA7,hgl⟩:=MX HFA.out rQ vV Au pJ.out (by have:=Xl.out;omega) (λ k hk=>(UH.out k hk).2);have hne:∀k',(Value.slice X R.length cx).ownBlock=some k'->W2.heap.size+4<=k' := λ k' hk'=>(UH.out k' hk').1;have Jg:w7.heap[ob]?=some (.cells #[.slice X R.length cx] 22 (0,0)):=(vV.block ob (Nat.lt_of_lt_of_le (lt_of_block UQ.out) uJ.out.size) (λ e=>by have:=hne _ e.symm;have:=HS2.out;omega)).trans ((uJ.out.block _ (lt_of_block UQ.out)).trans UQ.out);have TF:=hid (show aH (λ b=>b=ob\/W2.heap.size+4<=b) W3 w7 from(aH.aS (au HB4.out uJ.out)).trans ⟨vV.os,vV.tape,vV.output,vV.size,λ b hb hv=>vV.block b hb (λ e=>hv (.inr (hne _ e.symm)))⟩);refine hK.out _ _ ?_ (λ hHeld=>?_)
     ·exact aj Jg (i:=0) rfl
     clear hK K
     try simp only[Act.put,bn,bC,bD]
     obtain⟨_,_,f',_,_,u0,u1,u2,u3,u4,v0,v1,v2,v3,v4,gl2,_⟩:=Xo.get (i:=R.length) (by simp);have z0:=aj Jg (i:=0) rfl;have z1:=aA Jg (i:=0);have z2:=lt_of_block Jg;have hRl:(R.length:Int)<((R.length+1:Nat):Int):=by omega
     have hRl2:(R.length:Int)<(R.length:Int)+1:=by omega
     have HF7:=hid Xo;have HA7:=hid hA7;have HO7:=hid Jg;have HGB:=hid hgb;have hog:¬ob=gb:=by have:=HS2.out;omega
     have hgo:¬gb=ob := λ e=>hog e.symm;clear Xo hA7 Jg hgb rQ vV Au hne FU VJ hHeld;refine wpAnyH_done (by kernel_rfl) ?_ _;intro ff;refine⟨λ _=>True,trivial,?_⟩;simp only[List.length_cons,List.length_nil,Nat.reduceAdd,Nat.reduceSub];refine wpAnyH_take (i:=6) (v:=?_) rfl (by kernel_rfl) (by kernel_rfl) (by kernel_rfl) (λ _ _ _ h=>h) (Or.inl ⟨by rfl,?_⟩) trivial ?_
     rotate_left
     ·intro w hSw;(try dsimp only at hSw);go_simp;(try(with_reducible rfl))
     try simp only[Act.put,bn,bC,bD]
     refine wpAnyH_ready (rs := [7,8]) (by kernel_rfl) (by simp) (AllReadyH.cons rfl (λ K hK=>?_) (AllReadyH.cons rfl (λ K hK=>?_) AllReadyH.nil))
     ·go_simp
      refine hK.out _ _ trivial (λ _=>?_);clear hK K
      try simp only[Act.put,bn,bC,bD]
      refine lK 8 (by kernel_rfl) rfl λ K hK=>?_
      go_simp
      refine hK.out _ _ trivial (λ _=>?_);clear hK K
      try simp only[Act.put,bn,bC,bD]
      refine wpAnyH_done (by kernel_rfl) ?_ _;have hen:=MV (X:=X) (cx:=cx) HF7.out MB.out.len HA7.out HGB.out HO7.out (by have:=HS2.out;omega);refine⟨TF.out.trans hen.2.2,some ⟨gb,0,none⟩,c7,_,by rw[BH.out];exact hen.1,by rw[BH.out];exact hen.2.1⟩
     ·go_simp
      refine hK.out _ _ trivial (λ _=>?_);clear hK K
      try simp only[Act.put,bn,bC,bD]
      refine lK 7 (by kernel_rfl) rfl λ K hK=>?_
      go_simp
      refine hK.out _ _ trivial (λ _=>?_);clear hK K
      try simp only[Act.put,bn,bC,bD]
      refine wpAnyH_done (by kernel_rfl) ?_ _;have hen:=MW (X:=X) (cx:=cx) HF7.out MB.out.len HA7.out HGB.out HO7.out (by have:=HS2.out;omega);refine⟨TF.out.trans hen.2.2,some ⟨gb,0,none⟩,c7,_,by rw[BH.out];exact hen.1,by rw[BH.out];exact hen.2.1⟩
  case hdone =>
   rintro W3 hc3 ⟨X,cx,sl,h1,h2⟩ hD3;rw[List.take_length,<-HZ.out]at h1 h2;have MB:=hid h2;have HD3:=hid hD3;have s0:=aj h1 (i:=0) rfl;have s1:=lt_of_block h1;have aT:=hid (HB2.out.trans (hc3.below (B:=w.heap.size) (λ b hb h=>by have:=HS2.out;have:=MI.out;rcases h with h|h <;> omega) (by have:=HS2.out;have:=MI.out;omega)))
   have HNL:=hid (show(aZ f).length<=400 by
    rw[HZ.out];have h3:=(uh (aY f) []).2;have h4:=yH f;have:=jI.out
    simp at h3;omega)
   clear hc3 h2 hD3 h1
   dsimp only
   go_wp2_with fail
   refine zB (ds := [W2.heap.size]) rfl ⟨by simp,λ D hD=>by rw[List.mem_singleton]at hD;subst hD;exact HD3.out⟩ (v := .slice X (aZ f).length cx) (λ w' hc'=>?_) (λ w' hc'=>⟨X,cx,rfl,?_,aT.out.trans (hc'.below (λ b hb h=>by rw[List.mem_singleton]at h;have:=HS2.out;have:=MI.out;omega) aT.out.size)⟩)
   ·simp[results,Tryz.results10,go_sem]
   ·have hrd:=(MB.out.eu hc' (λ x hx=>by rw[List.mem_singleton]at hx;omega)).rd (by have:=HNL.out;omega)
    exact hrd.base (by have:=HS2.out;have:=MI.out;omega)
end Go.Proofs.YtdpbgcmfeajigaaGreatDoor
namespace Go.Proofs.YtdpbgcmfeajigaaGreatDoor
open Go.RowKit Go.Shelf
attribute [local go_sem] ak run_store_func Oper.semAt_some
theorem ZM {F:Dom}(gs:List Fm)(A:Option Addr)(c n mem mb sb:Nat)(f:Fm)(fb fo:Nat)(A2:Option Addr)(c2:Nat)(w:World)(hn:n=gs.length)(h:bZ w (Cl w) gs A c)(hL:lH gs=true)(hmem:mem<256)(hmb:w.cell? ⟨mb,0,none⟩=some (.int .i64 (mem:Int)))(hsb:w.cell? ⟨sb,0,none⟩=some (.slice A n c))(hf:dU w F fb fo f A2 c2)(hm:f∈gs) :
  Calls Tryz.prog 77 #[.pointer (some ⟨fb,fo,none⟩),.pointer (some ⟨mb,0,none⟩),.pointer (some ⟨sb,0,none⟩)] w λ e w'=>e = .returned (.int .i64 (Ee gs mem f))/\Below w.heap.size w w':=by
 have HA:=hid h;have HF:=hid hf.old;have HN:=hid hn;have HL:=hid hL;have hk:jU f gs<gs.length:=qw.2 hm;have hfi:findF gs f=(jU f gs:Int):=by unfold findF;rw[if_pos hm]
 have PW:=(jw hL).1;obtain⟨k,hke⟩:∃k,jU f gs=k:=⟨_,rfl⟩;rw[hke]at hk hfi;obtain⟨q,hq⟩:∃q,mem / 2 ^ k=q:=⟨_,rfl⟩
 have hqi:(mem:Int) / 2 ^ k=(q:Int):=by
  rw[<-hq];simp
 have VI:q<=mem:=by rw[<-hq];exact Nat.div_le_self _ _
 have hb:=Ae (a:=q) (by omega);have HS:=hid (OQ gs mem f);rw[hke,hq]at HS;obtain⟨r,hr⟩:∃r,q % 2=r:=⟨_,rfl⟩;have hr2:r<2:=by omega
 rw[hr]at hb HS
 have HSB:=hid (show Ee gs mem f=(r:Int)by
  unfold Ee;rw[HS.out]
  by_cases e:r=1
  ·rw[e];rfl
  ·obtain rfl:r=0:=by omega
   rfl)
 have h0:(0:Int)<=(k:Int):=by omega
 have h1:(k:Int)<=64:=by omega
 have yQ:Hid (∀W,Below w.heap.size w W->Calls Tryz.prog 44 #[.slice A n c,.pointer (some ⟨fb,fo,none⟩)] W λ e w'=>e = .returned (.int .i64 (k:Int))/\Below w.heap.size w w'):=hid λ W hb=>by
  refine(uf gs A c n f fb fo A2 c2 W HN.out (HA.out.aV hb) (HF.out.keep (Keeps.of_below hb λ _ h=>h)) (λ g hg=>oq HL.out hg) (.inl λ _ h=>h)).mono ?_;rintro e w' ⟨rfl,hb'⟩;exact⟨by rw[hfi],au hb hb'.below⟩
 have hmbl:=World.block_lt_of_cell? w _ hmb;have hsbl:=World.block_lt_of_cell? w _ hsb;have HMB:=hid hmb;have HSB2:=hid hsb
 have aI:Hid (∀W':World,Below w.heap.size w W'->W'.cell? ⟨mb,0,none⟩=some (.int .i64 (mem:Int))/\W'.cell? ⟨sb,0,none⟩=some (.slice A n c)):=hid λ W' hb =>
  ⟨(hb.cell (p:=⟨mb,0,none⟩) hmbl).trans HMB.out,(hb.cell (p:=⟨sb,0,none⟩) hsbl).trans HSB2.out⟩
 have HI0:=hid (Below.refl w.heap.size w);have HI1:=hid (show Below w.heap.size w w.drew from(Below.refl w.heap.size w).drew);have HI2:=hid (show∀i,Below w.heap.size w (w.drewN i)from λ i=>below_drewN (Below.refl w.heap.size w) i);obtain⟨rv,hrv⟩:∃rv,Ee gs mem f=rv:=⟨_,rfl⟩;rw[hrv]at HSB⊢;have LX:=hid HSB.out;clear h hf hn hL hk hfi PW hm hke hq VI hr hr2 hrv HSB
 go_enter Tryz.func77,Tryz.ntmps77
 go_upto_region 1 with(fail)
 go_region_held3 (λ W':World=>W'.cell? ⟨mb,0,none⟩=some (.int .i64 (mem:Int))/\W'.cell? ⟨sb,0,none⟩=some (.slice A n c))
  (first|(with_reducible exact aI.out _ hI)|(go_keep;done))
  ((go_at_call 44;(with_reducible refine(yQ.out _ (by first|exact HI0.out|exact HI1.out|exact HI2.out _)).mono ?_);rintro e W9 ⟨rfl,hI⟩))
 all_goals
  have HI:=hid hI;clear hI;go_wp2_with fail
  go_ret
  exact⟨by rw[LX.out];rfl,HI.out⟩
theorem mX.base {f:Fm}{w w1 w':World}{v:Value}(h:mX f w1 v w')(hb:Below w.heap.size w w1):mX f w v w':=by
 obtain⟨hbl,A,c,e,ha⟩:=h;exact⟨au hb hbl,A,c,e,ha.base hb.size⟩
theorem Uw {D:Dom}(gs:List Fm)(A:Option Addr)(c n:Nat)(mem:Int)(f:Fm)(v:Value)(w:World)(hn:n=gs.length)(h:bZ w (Cl w) gs A c)(hL:lH gs=true)(hF:bI w D v f)(hl:bf f=true)(hm:∀g,g∈aY f->g∈gs)(hg:GF w)(hk:GK w)(hz:f.size<=1000000)
  (m:Nat) (hmem:mem=(m:Int)) (r:Bool) (hr:decide (m<2 ^ n)=r) :
  Calls Tryz.prog 27 #[.slice A n c,.int .i64 mem,v] w λ e w'=>∃u,e = .returned u/\mX (if r then qy gs m f else dV) w u w':=by
 have hmf:∀(fn:Fn) (first cap:Array Value) (w:World),(Instr.makeFunc fn first cap).run Tryz.prog w = .ok (.func fn first cap) w := λ _ _ _ _=>rfl;subst hmem;obtain⟨A2,c2,rfl,ha⟩:=hF;have HA:=hid h;have HN:=hid hn;have HL:=hid hL;have HA2:=hid ha.old;have sW:=hid hl;have HM:=hid hm;have HG:=hid hg;have HK:=hid hk;have HR:=hid hr;have HZ:=hid hz;have PW:n<=8:=by rw[hn];exact(jw hL).1
 have HN8:=hid PW;clear h hn hL ha hl hm hg hk hr PW hz
 go_enter Tryz.func27,Tryz.ntmps27
 go_upto_region 1 with(fail)
 refine aC λ U hU=>?_;have HB:=hid (show Below w.heap.size w U by rw[hU];go_grown);have mW:=hid (show U.heap[w.heap.size]?=some (.cells #[.slice A n c] 22 (0,0))by rw[hU,aQ _ _ _ (by simp <;> omega),aQ _ _ _ (by simp <;> omega),aQ _ _ _ (by simp)];exact at_new _ _ _ rfl);have kG:=hid (show U.heap[w.heap.size+1]?=some (.cells #[.int .i64 (m:Int)] 3 (0,0))by rw[hU,aQ _ _ _ (by simp <;> omega),aQ _ _ _ (by simp)];exact at_new _ _ _ (by simp));have HE2:=hid (show dH U (w.heap.size+2) f A2 c2 by show U.heap[w.heap.size+2]?=_;rw[hU,aQ _ _ _ (by simp)];exact at_new _ _ _ (by simp))
 have Iq:=hid (show OB U (w.heap.size+3) 0 ⟨#[]⟩ 0 0 none 0 0 by show U.heap[w.heap.size+3]?=_;rw[hU];exact at_new _ _ _ (by simp));clear hU;have HIM:=hid (uZ (D:=Cl U) gs A c n (m:Int) U HN.out (HA.out.aV HB.out) (λ _ h=>h) HL.out (HG.out.below HB.out HG.out.pos) (HK.out.below HB.out HK.out.pos))
 have HRR:=hid (show(decide (0<=(m:Int))&&decide ((m:Int)<((2 ^ n:Nat):Int)))=r by
  rw[decide_eq_true (by omega),Bool.true_and,<-HR.out]
  exact decide_eq_decide.2 (by omega))
 rw[HRR.out]at HIM;have s0:=aj mW.out (i:=0) rfl;have s1:=aj kG.out (i:=0) rfl;have s2:=lt_of_block mW.out;have s3:=lt_of_block kG.out;cases r
 ·go_upto_region 2 with(go_at_call 76;(with_reducible refine HIM.out.mono ?_);rintro e W1 ⟨rfl,hb1⟩;have HB1:=hid hb1;clear hb1 s0 s1 s2 s3)
  have hO1:=Iq.out.below HB1.out;obtain⟨z0,z1,z2,z3,z4,z5⟩:=hO1.cells;have y0:=hO1.free 0;have y1:=hO1.free 1;have y2:=hO1.free 2;have y3:=hO1.free 3;have y4:=hO1.free 4;have HO1:=hid hO1;clear hO1;go_wp2_with fail
  refine aK λ W9 yh=>?_;have hO9:OB W9 (w.heap.size+3) 0 ⟨#[]⟩ 0 0 none 0 0:=by rw[yh];exact bF HO1.out
  have Vy:aH (λ x=>x=w.heap.size+3) W1 W9:=by rw[yh];exact aN _ _ _ _ _ _ _
  clear yh z0 z1 z2 z3 z4 z5 y0 y1 y2 y3 y4;obtain⟨r0,r1,r2,r3,r4,r5⟩:=hO9.cells;have hbw:=au HB.out HB1.out;exact bodyPost_ret (v := .agg #[.int .i64 0,.string ⟨#[]⟩,.int .i64 0,.int .i64 0,.slice none 0 0]) (by simp[results,Tryz.results27,go_sem,r0,r1,r2,r3,r4]) rfl ⟨_,rfl,mX.zero (hbw.trans (Vy.below (B:=w.heap.size) (λ x hx hv=>by have hv':x=w.heap.size+3:=hv;omega) hbw.size))⟩
 ·have HML:=hid (show m<2 ^ n from of_decide_eq_true HR.out)
  have qfo:=hid (show m<256 from Nat.lt_of_lt_of_le HML.out (Lc HN8.out))
  have HHN:Hid (∀W,Below U.heap.size U W->Calls Tryz.prog 65 #[.slice A n c,.pointer (some ⟨w.heap.size+2,0,none⟩)] W λ e w'=>e = .returned (.bool true)/\Below U.heap.size U w'):=hid λ W hb=>by
   have hbw:=au HB.out hb;refine(Aq (E:=aW) gs A c n f (w.heap.size+2) 0 A2 c2 W HN.out (HA.out.aV hbw) (λ _ h=>h) (λ f hf=>oq HL.out hf) (dH.yN (D:=aW) (HE2.out.below hb) trivial ((HA2.out.keep (Keeps.of_below hbw λ _ h=>h)).mono λ _ _ _=>trivial)) sW.out HM.out (HG.out.below hbw HG.out.pos) (HK.out.below hbw HK.out.pos)).mono ?_;rintro e w' ⟨rfl,hb'⟩;exact⟨rfl,au hb hb'⟩
  go_upto_region 3 with(first
   | (go_at_call 76;(with_reducible refine HIM.out.mono ?_);rintro e W1 ⟨rfl,hb1⟩;have HB1:=hid hb1;clear s0 s1 s2 s3;have s0:=aj ((hb1.block _ (lt_of_block mW.out)).trans mW.out) (i:=0) rfl;have s2:=lt_of_block ((hb1.block _ (lt_of_block mW.out)).trans mW.out);clear hb1)
   | (go_at_call 65;(with_reducible refine(HHN.out _ HB1.out).mono ?_);rintro e W2 ⟨rfl,hb2⟩;have HB2:=hid hb2;clear hb2 s0 s2))
  have aT:=hid (au HB.out HB2.out)
  have HVF:=hid (show qdM 77 #[.pointer (some ⟨w.heap.size+1,0,none⟩),.pointer (some ⟨w.heap.size,0,none⟩)] (Ee gs m) (λ x=>x∈gs) W2 from
   ⟨enters_of Tryz.func77 (by kernel_rfl) rfl,λ D x b o A' c' W hx hb hfx=>ZM gs A c n m (w.heap.size+1) w.heap.size x b o A' c' W HN.out (HA.out.aV (au aT.out hb)) HL.out qfo.out
    (aj (((au HB2.out hb).block _ (lt_of_block kG.out)).trans kG.out) (i:=0) rfl) (aj (((au HB2.out hb).block _ (lt_of_block mW.out)).trans mW.out) (i:=0) rfl) hfx hx⟩)
  have HCH:=hid (DC HVF.out f HM.out HZ.out aW (w.heap.size+2) 0 A2 c2 W2 (Below.refl _ _) (dH.yN (D:=aW) (HE2.out.below HB2.out) trivial ((HA2.out.keep (Keeps.of_below aT.out λ _ h=>h)).mono λ _ _ _=>trivial)));obtain⟨g,hg⟩:∃g,fC (Ee gs m) f=g:=⟨_,rfl⟩;have UH:=hid (show qy gs m f=g from hg);rw[hg]at HCH;clear hg
  go_wp2_with (go_at_call 45;(with_reducible refine HCH.out.mono ?_);rintro e W3 ⟨v3,rfl,hb3,A3,c3,rfl,wJ⟩;have HB3:=hid (au aT.out hb3);have pJ:=hid wJ;have hO3:=(Iq.out.below HB2.out).below hb3;have HS3:=hid hb3.size;clear hb3 wJ;obtain⟨z0,z1,z2,z3,z4,z5⟩:=hO3.cells;have y0:=hO3.free 0;have y1:=hO3.free 1;have y2:=hO3.free 2;have y3:=hO3.free 3;have y4:=hO3.free 4;have XP:=hid hO3;clear hO3)
  refine aK λ W9 yh=>?_;have hO9:OB W9 (w.heap.size+3) g.op g.name g.val g.bound A3 g.args.length c3:=by rw[yh];exact bF XP.out
  have Vy:aH (λ x=>x=w.heap.size+3) W3 W9:=by rw[yh];exact aN _ _ _ _ _ _ _
  clear yh z0 z1 z2 z3 z4 z5 y0 y1 y2 y3 y4;obtain⟨r0,r1,r2,r3,r4,r5⟩:=hO9.cells;have hs2:=HB2.out.size;have hs3:=lt_of_block Iq.out;have hk:Keeps (Nw W2.heap.size W3) W3 W9:=Vy.keeps λ k _ hk hv=>by have hv':k=w.heap.size+3:=hv;have:=hk.1;omega
  refine bodyPost_ret (v := .agg #[.int .i64 g.op,.string g.name,.int .i64 g.val,.int .i64 g.bound,.slice A3 g.args.length c3]) (by simp[results,Tryz.results27,go_sem,r0,r1,r2,r3,r4]) rfl ⟨_,rfl,HB3.out.trans (Vy.below (B:=w.heap.size) (λ x hx hv=>by have hv':x=w.heap.size+3:=hv;omega) HB3.out.size),A3,c3,?_,?_⟩
  ·rw[UH.out]
  ·rw[UH.out]
   exact((pJ.out.keep hk).mono λ k hk' _=>hk'.keep hk (λ _ h=>h)).base aT.out.size
end Go.Proofs.YtdpbgcmfeajigaaGreatDoor
namespace Go.Proofs.YtdpbgcmfeajigaaGreatDoor
theorem RQ (f:Fm):bf f=(decide (f.size<=400)&&decide (f.depth<=60)&&gu f&&lG f&&wG f):=by
 rw[Bool.eq_iff_iff];unfold bf wG;simp only[Bool.and_eq_true,decide_eq_true_eq];rw[gJ,qJ,Nv,qJ]
 constructor
 ·rintro⟨⟨a,b⟩,c,d,e⟩;exact⟨⟨⟨⟨by omega,by omega⟩,c⟩,d⟩,e⟩
 ·rintro⟨⟨⟨⟨a,b⟩,c⟩,d⟩,e⟩;exact⟨⟨by omega,by omega⟩,c,d,e⟩
theorem Tv (f:Fm):jP f=(decide (f.size<=60)&&decide (f.depth<=20)&&gu f):=by
 rw[Bool.eq_iff_iff];unfold jP gu;simp only[Bool.and_eq_true,decide_eq_true_eq];rw[gJ]
 constructor
 ·rintro⟨⟨a,b⟩,c⟩;exact⟨⟨by omega,by omega⟩,c⟩
 ·rintro⟨⟨a,b⟩,c⟩;exact⟨⟨by omega,by omega⟩,c⟩
end Go.Proofs.YtdpbgcmfeajigaaGreatDoor
namespace Go.Proofs.YtdpbgcmfeajigaaGreatDoor
open Go.RowKit Go.Shelf
attribute [local go_sem] ak
def VF (w:World)(o:Int)(n:ByteArray)(v b:Int)(A:Option Addr)(k c:Nat)(f:Fm):Prop:=∃gs,f = .mk o n v b gs/\k=gs.length/\bZ w aW gs A c
section
variable {w w':World}{o:Int}{n:ByteArray}{v b:Int}{A:Option Addr}{k c:Nat}{f:Fm}
theorem bI.lit {D:Dom}{x:Value}{gs:List Fm}(h:bI w D x f)(hf:f = .mk o n v b gs)(hk:gs.length=k):∃A c,x = .agg #[.int .i64 o,.string n,.int .i64 v,.int .i64 b,.slice A k c]/\VF w o n v b A k c f:=by
 obtain⟨A,c,rfl,h⟩:=h;subst hf hk;exact⟨A,c,rfl,_,rfl,rfl,h.mono λ _ _ _=>trivial⟩
theorem mX.lit {g:Fm}{x:Value}{gs:List Fm}(h:mX g w x w')(hf:g = .mk o n v b gs)(hk:gs.length=k):∃A c,x = .agg #[.int .i64 o,.string n,.int .i64 v,.int .i64 b,.slice A k c]/\VF w' o n v b A k c g/\Below w.heap.size w w':=by
 obtain⟨A,c,e,h2⟩:=h.2.lit hf hk;exact⟨A,c,e,h2,h.1⟩
section
variable {o2:Int}{n2:ByteArray}{v2 b2:Int}{A2:Option Addr}{k2 c2:Nat}{f2:Fm}
end
end
end Go.Proofs.YtdpbgcmfeajigaaGreatDoor
namespace Go.Proofs.YtdpbgcmfeajigaaGreatDoor
open Go.RowKit Go.Shelf
attribute [local go_sem] ak run_store_func Oper.semAt_some
theorem SQ (o:Int)(w:World):Calls Tryz.prog 13 #[.int .i64 o] w λ e w'=>e = .returned (.bool (jV o))/\w'=w:=by
 by_cases h1:o=15
 ·subst h1
  go_enter Tryz.func13,Tryz.ntmps13
  go_wp2_with fail
  go_ret
  exact⟨rfl,rfl⟩
 ·by_cases h2:o=16
  ·subst h2
   go_enter Tryz.func13,Tryz.ntmps13
   go_wp2_with fail
   go_ret
   exact⟨rfl,rfl⟩
  ·by_cases h3:o=17
   ·subst h3
    go_enter Tryz.func13,Tryz.ntmps13
    go_wp2_with fail
    go_ret
    exact⟨rfl,rfl⟩
   ·have d1:(o==15)=false:=cu h1
    have d2:(o==16)=false:=cu h2;have d3:(o==17)=false:=cu h3
    have HR:=hid (show jV o=false by
     cases h:jV o
     ·rfl
     ·rcases pF.1 h with h|h|h <;> contradiction)
    clear h1 h2 h3
    go_enter Tryz.func13,Tryz.ntmps13
    go_wp2_with fail
    go_ret
    exact⟨by rw[HR.out];rfl,rfl⟩
structure wO (w:World) (base:Nat) (A:Option Addr) (c:Nat) (gs:List Fm) (sl:List (Option Addr×Nat)):Prop where
 own:w.ownsRow base 24 5 (.slice A gs.length c) gs.length (bQ gs sl)
 len:sl.length=gs.length
 arg:∀i,i<gs.length->bZ w (λ k=>(Value.slice A gs.length c).ownBlock≠some k) (gs.getD i default).args (sl.getD i (none,0)).1 (sl.getD i (none,0)).2
theorem bZ.kept {w w':World}{D:Dom}{l:List Fm}{A:Option Addr}{c:Nat}(h:bZ w D l A c)(hb:Below w.heap.size w w'):bZ w' D l A c :=
 ((h.mono (E := λ k=>D k/\k<w.heap.size) λ k hk hl=>⟨hk,hl⟩).keep (Keeps.of_below hb λ _ h=>h.2)).mono λ k hk _=>hk.1
section
variable {w w':World}{base c:Nat}{A:Option Addr}{gs:List Fm}{sl:List (Option Addr×Nat)}
theorem wO.nil (w:World)(base:Nat):wO w base none 0 [] []:=⟨⟨rfl,.inl ⟨rfl,rfl⟩⟩,rfl,λ i h=>absurd h (Nat.not_lt_zero _)⟩
theorem wO.ge (h:wO w base A c gs sl){k:Nat}(hk:(Value.slice A gs.length c).ownBlock=some k):base<=k/\k<w.heap.size:=by
 rcases h.own.2 with⟨h0,_⟩|⟨g,cap,cur,hv,hb,hg,_⟩
 ·rw[h0]at hk;cases hk
 ·rw[hv]at hk
  injection hk with hk
  have:g=k:=hk;subst this;exact⟨hb,lt_of_block hg⟩
theorem wO.below (h:wO w base A c gs sl)(hb:Below w.heap.size w w'):wO w' base A c gs sl :=
 ⟨EH h.own (aH.aS (V := λ _=>False) hb) λ _ _ h=>h,h.len,λ i hi=>(h.arg i hi).kept hb⟩
theorem wO.rd (h:wO w base A c gs sl)(hn:gs.length<=140737488355328):bZ w aW gs A c:=by
 refine .mk gs A c sl h.len ?_ λ i hi=>(h.arg i hi).mono λ k hk _=>trivial
 rcases h.own.2 with⟨hv,h0⟩|⟨g,cap,cur,hv,hb,hh,h1,h2,hsz,htk⟩
 ·injection hv with hA _ hc
  have:gs = []:=List.eq_nil_of_length_eq_zero h0;subst this hc;have hl:=h.len;have:sl = []:=List.eq_nil_of_length_eq_zero hl;subst this;exact Rd.nil _ _ _ _ (by omega)
 ·injection hv with hA _ hc
  subst hA hc;refine⟨⟨h.own.1,hn,h1,h2⟩,λ hn=>⟨g,0,rfl,trivial,lt_of_block hh,λ j u hu=>?_⟩⟩;rw[<-htk,List.getElem?_take]at hu
  split at hu
  ·simp[World.cell?,hh];simpa using hu
  ·cases hu
theorem wO.app {A':Option Addr}{c' n:Nat}{ms:List Fm}{sm:List (Option Addr×Nat)}(h:wO w base A c gs sl)(hg:w.grownBy w' (Value.slice A gs.length c).ownBlock)(hn:n=(gs++ms).length)
  (hown:w'.ownsRow base 24 5 (.slice A' n c') n (bQ gs sl++bQ ms sm)) (hat:(Value.slice A' n c').ownBlock=(Value.slice A gs.length c).ownBlock\/(Value.slice A' n c').ownBlock=some w.heap.size) (hsm:sm.length=ms.length)
  (hms:∀i,i<ms.length->bZ w (λ k=>(Value.slice A gs.length c).ownBlock≠some k) (ms.getD i default).args (sm.getD i (none,0)).1 (sm.getD i (none,0)).2):wO w' base A' c' (gs++ms) (sl++sm):=by
 subst hn
 have key:∀{l:List Fm} {B:Option Addr} {d:Nat},bZ w (λ k=>(Value.slice A gs.length c).ownBlock≠some k) l B d->bZ w' (λ k=>(Value.slice A' (gs++ms).length c').ownBlock≠some k) l B d := λ h1=>by
  refine((h1.mono (E := λ k=>(Value.slice A gs.length c).ownBlock≠some k/\k<w.heap.size) λ k hk hl=>⟨hk,hl⟩).keep (w':=w') ⟨hg.size,λ k hk hl=>hg.block k hl (λ e=>hk.1 e.symm)⟩).mono λ k hk' _ => λ e=>?_
  rcases hat with hat|hat
  ·rw[hat]at e;exact hk'.1 e
  ·rw[hat]at e
   injection e with e
   have:=hk'.2;omega
 refine⟨by rw[oJ h.len];exact hown,by rw[List.length_append,List.length_append,h.len,hsm],λ i hi=>?_⟩
 by_cases hl:i<gs.length
 ·have e1:(gs++ms).getD i default=gs.getD i default:=by simp[List.getD,List.getElem?_append_left hl]
  have e2:(sl++sm).getD i (none,0)=sl.getD i (none,0):=by simp[List.getD,List.getElem?_append_left (show i<sl.length by rw[h.len];exact hl)]
  rw[e1,e2];exact key (h.arg i hl)
 ·have hl2:i-gs.length<ms.length:=by rw[List.length_append]at hi;omega
  have e1:(gs++ms).getD i default=ms.getD (i-gs.length) default:=by simp[List.getD,List.getElem?_append_right (show gs.length<=i by omega)]
  have e2:(sl++sm).getD i (none,0)=sm.getD (i-gs.length) (none,0):=by simp[List.getD,List.getElem?_append_right (show sl.length<=i by rw[h.len];omega),h.len]
  rw[e1,e2];exact key (hms _ hl2)
end
def Later (w w':World)(A A':Option Addr)(n n' c c':Nat):Prop:=w.grownBy w' (Value.slice A n c).ownBlock/\((Value.slice A' n' c').ownBlock=(Value.slice A n c).ownBlock\/∃k,(Value.slice A' n' c').ownBlock=some k/\w.heap.size<=k)
theorem Later.refl (w:World)(A:Option Addr)(n c:Nat):Later w w A A n n c c:=⟨⟨rfl,rfl,rfl,Nat.le_refl _,λ _ _ _=>rfl⟩,.inl rfl⟩
theorem Later.of_below {w w':World}(hb:Below w.heap.size w w')(A:Option Addr)(n c:Nat):Later w w' A A n n c c:=⟨⟨hb.os,hb.tape,hb.output,hb.size,λ k hk _=>hb.block k hk⟩,.inl rfl⟩
theorem Later.trans {w w1 w2:World}{A A1 A2:Option Addr}{n n1 n2 c c1 c2:Nat}(h:Later w w1 A A1 n n1 c c1)(k:Later w1 w2 A1 A2 n1 n2 c1 c2):Later w w2 A A2 n n2 c c2:=by
 refine⟨⟨k.1.os.trans h.1.os,k.1.tape.trans h.1.tape,k.1.output.trans h.1.output,Nat.le_trans h.1.size k.1.size,λ b hb hne=>?_⟩,?_⟩
 ·refine(k.1.block b (Nat.lt_of_lt_of_le hb h.1.size) (λ e=>?_)).trans (h.1.block b hb hne)
  rcases h.2 with h2|⟨x,h2,h3⟩
  ·rw[h2]at e;exact hne e
  ·rw[h2]at e
   injection e with e
   omega
 ·rcases k.2 with k2|⟨x,k2,k3⟩
  ·rcases h.2 with h2|h2
   ·exact .inl (k2.trans h2)
   ·rw[k2];exact .inr h2
  ·exact .inr ⟨x,k2,Nat.le_trans h.1.size k3⟩
theorem Later.block {w w':World}{A A':Option Addr}{n n' c c':Nat}(h:Later w w' A A' n n' c c'){b:Nat}(hb:b<w.heap.size)(hn:∀k,(Value.slice A n c).ownBlock=some k->k≠b):w'.heap[b]?=w.heap[b]? :=
 h.1.block b hb λ e=>hn b e.symm rfl
theorem Later.below {w w':World}{A A':Option Addr}{n n' c c' base:Nat}(h:Later w w' A A' n n' c c')(hn:∀k,(Value.slice A n c).ownBlock=some k->base<=k)(hb:base<=w.heap.size):Below base w w' :=
 ⟨h.1.os,h.1.tape,h.1.output,h.1.size,λ b hl=>h.block (Nat.lt_of_lt_of_le hl hb) λ k hk e=>by have:=hn k hk;omega⟩
theorem SN {D E:Dom}(gs:List Fm)(A:Option Addr)(c n:Nat)(g:Fm)(v:Value)(w:World)(hn:n=gs.length)(h:bZ w D gs A c)(h2:bI w E v g) :
  Calls Tryz.prog 14 #[.slice A n c,v] w λ e w'=>e = .returned (.int .i64 (findF gs g))/\Below w.heap.size w w':=by
 subst hn;obtain⟨A2,c2,rfl,ha2⟩:=h2;have HR:=hid h.old;have HA2:=hid ha2.old;have hgl:=h.len.1;clear h ha2
 go_enter Tryz.func14,Tryz.ntmps14
 go_upto_region 1 with(fail)
 refine aC λ W hW=>?_;have HB:=hid (show Below w.heap.size w W by rw[hW];go_grown);have HE:=hid (show dH W w.heap.size g A2 c2 by show W.heap[w.heap.size]?=_;rw[hW];exact at_new _ _ _ rfl);clear hW;go_wp2_with fail
 go_loopw [5] (λ r wr=>∃k:Nat,k<=gs.length/\r = .int .i64 (k:Int)/\Below W.heap.size W wr/\(∀j,j<k->gs.getD j default≠g)) (λ r _=>gs.length-(intOf r).toNat)
 case atStart=>exact⟨0,Nat.zero_le _,rfl,by first|exact Below.refl _ _|go_grown,λ j h=>absurd h (Nat.not_lt_zero _)⟩
 case round =>
  obtain⟨i,hi,rfl,hb,hm⟩:=hrel;have gB:=hid hb;have aT:=hid (au HB.out hb);have HM:=hid hm;clear hb hm
  by_cases hlt:i<gs.length
  ·have hii:(i:Int)<(gs.length:Int):=by omega
   obtain⟨b1,o1,A',c',f,rfl,HX,hf⟩:=(HR.out.keep (Keeps.of_below aT.out λ _ h=>h)).get hlt;have HF:=hid hf
   have aI:Hid (∀W':World,Below wr.heap.size wr W'->W'.cell? ⟨b1,o1+i*5,none⟩=some (.int .i64 f.op)/\W'.cell? ⟨b1,o1+i*5+1,none⟩=some (.string f.name)/\W'.cell? ⟨b1,o1+i*5+2,none⟩=some (.int .i64 f.val)/\W'.cell? ⟨b1,o1+i*5+3,none⟩=some (.int .i64 f.bound)/\W'.cell? ⟨b1,o1+i*5+4,none⟩=some (.slice A' f.args.length c')/\W'.cell? ⟨w.heap.size,0,none⟩=some (.int .i64 g.op)/\W'.cell? ⟨w.heap.size,1,none⟩=some (.string g.name)/\W'.cell? ⟨w.heap.size,2,none⟩=some (.int .i64 g.val)/\W'.cell? ⟨w.heap.size,3,none⟩=some (.int .i64 g.bound)/\W'.cell? ⟨w.heap.size,4,none⟩=some (.slice A2 g.args.length c2)):=hid λ W' hb=>by
    have hq:=HF.out.keep (Keeps.of_below hb λ k (hk:k<w.heap.size)=>Nat.lt_of_lt_of_le hk aT.out.size);have he:=((HE.out.below gB.out).below hb).cells;exact⟨hq.c0,hq.c1,hq.c2,hq.c3,hq.c4,he.1,he.2.1,he.2.2.1,he.2.2.2.1,he.2.2.2.2.1⟩
   have aX:Hid (∀W':World,Below wr.heap.size wr W'->Calls Tryz.prog 39 #[.agg #[.int .i64 f.op,.string f.name,.int .i64 f.val,.int .i64 f.bound,.slice A' f.args.length c'],.agg #[.int .i64 g.op,.string g.name,.int .i64 g.val,.int .i64 g.bound,.slice A2 g.args.length c2]] W' λ e w'=>e = .returned (.bool (decide (f.cmp g=0)))/\Below wr.heap.size wr w'):=hid λ W' hb=>by
    refine(CX f g _ _ W' (bI.cells5 (HF.out.keep (Keeps.of_below hb λ k (hk:k<w.heap.size)=>Nat.lt_of_lt_of_le hk aT.out.size)).args) (bI.cells5 (HA2.out.keep (Keeps.of_below (au aT.out hb) λ _ h=>h)))).mono ?_;rintro e w' ⟨rfl,hb'⟩;exact⟨rfl,au hb hb'⟩
   have HI0:=hid (Below.refl wr.heap.size wr);have HI1:=hid (show Below wr.heap.size wr wr.drew from(Below.refl wr.heap.size wr).drew);have HI2:=hid (show∀i,Below wr.heap.size wr (wr.drewN i)from λ i=>below_drewN (Below.refl wr.heap.size wr) i);obtain⟨p0,p1,p2,p3,p4,r0,r1,r2,r3,r4⟩:=aI.out wr (Below.refl _ _);have hbl:=Nat.lt_of_lt_of_le hf.dom aT.out.size;have hwl:w.heap.size<wr.heap.size:=(HE.out.below gB.out).cells.2.2.2.2.2;have hi0:(0:Int)<=(i:Int):=by omega
   obtain⟨r,hr⟩:∃r,decide (f.cmp g=0)=r:=⟨_,rfl⟩;have HRC:=hid hr;rw[hr]at aX;clear hf hr;go_upto_region 4 with(fail)
   go_region_held3 (λ W':World=>W'.cell? ⟨b1,o1+i*5,none⟩=some (.int .i64 f.op)/\W'.cell? ⟨b1,o1+i*5+1,none⟩=some (.string f.name)/\W'.cell? ⟨b1,o1+i*5+2,none⟩=some (.int .i64 f.val)/\W'.cell? ⟨b1,o1+i*5+3,none⟩=some (.int .i64 f.bound)/\W'.cell? ⟨b1,o1+i*5+4,none⟩=some (.slice A' f.args.length c')/\W'.cell? ⟨w.heap.size,0,none⟩=some (.int .i64 g.op)/\W'.cell? ⟨w.heap.size,1,none⟩=some (.string g.name)/\W'.cell? ⟨w.heap.size,2,none⟩=some (.int .i64 g.val)/\W'.cell? ⟨w.heap.size,3,none⟩=some (.int .i64 g.bound)/\W'.cell? ⟨w.heap.size,4,none⟩=some (.slice A2 g.args.length c2))
    (first|(with_reducible exact aI.out _ hI)|(go_keep;done))
    ((go_at_call 39;(with_reducible refine(aX.out _ (by first|exact HI0.out|exact HI1.out|exact HI2.out _)).mono ?_);rintro e W9 ⟨rfl,hI⟩))
   all_goals
    have rJ:=hid (au gB.out hI);have mZ:=hid HX.out;have dX:=hid hlt;clear p0 p1 p2 p3 p4 r0 r1 r2 r3 r4 HX hI hlt;cases r
    ·go_wp2_with fail
     go_roundw
     case rel =>
      refine⟨i+1,by have:=dX.out;omega,by go_num,rJ.out,λ j hj=>?_⟩
      by_cases hji:j<i
      ·exact HM.out j hji
      ·obtain rfl:j=i:=by omega
       rw[mZ.out];intro e;have:=of_decide_eq_false HRC.out;exact this (nC.2 e)
     case measure=>have:=dX.out;simp[intOf];omega
    ·have HFF:=hid (IY dX.out (mZ.out.trans (nC.1 (of_decide_eq_true HRC.out))) HM.out)
     go_wp2_with fail
     go_ret
     exact⟨by rw[HFF.out];rfl,au HB.out rJ.out⟩
  ·have hii:¬(i:Int)<(gs.length:Int):=by omega
   have HFF:=hid (FD (gs:=gs) (g:=g) λ j hj=>HM.out j (by omega));clear hlt;go_wp2_with fail
   go_ret
   exact⟨by rw[HFF.out];rfl,aT.out⟩
def Xx (A:Option Addr)(c n base:Nat)(R:List Fm)(w:World)(e:Ending)(w':World):Prop :=
 ∃(A':Option Addr) (c':Nat) (sl':List (Option Addr×Nat)),e = .returned (.slice A' R.length c')/\wO w' base A' c' R sl'/\Later w w' A A' n R.length c c'
def qcc (f:Fm):Prop:=∀(gs:List Fm) (A:Option Addr) (c n:Nat) (sl:List (Option Addr×Nat)) (base:Nat) (v:Value) (w:World),n=gs.length->wO w base A c gs sl->bI w (· < base) v f->base<=w.heap.size->gs.length+f.size<=1000000 ->
 Calls Tryz.prog 53 #[.slice A n c,v] w (Xx A c n base (gX gs (aY f)) w)
theorem Rf (gs:List Fm)(f:Fm):(gX gs (aY f)).length<=gs.length+f.size:=by
 have h1:=(uh (aY f) gs).2;have h2:=yH f;omega
theorem DL (gs l:List Fm):(gX gs (dM l)).length<=gs.length+sizes l:=by
 have h1:=(uh (dM l) gs).2;have h2:=zH (l:=l) λ g _=>yH g;omega
theorem KF (f:Fm):qcc f:=by
 refine Fm.pW (P := λ f=>qcc f) ?_ f;clear f;intro f ih gs A c n sl base v w hn hP hF hbw hsz;obtain⟨A2,c2,rfl,ha2⟩:=hF;have HIH:=hid ih;have HP:=hid hP;have HA2:=hid ha2;have HN:=hid hn;have jI:=hid hsz;have aT:=hid hbw;have hgl:n<=1000000:=by omega
 have hal:=ha2.len.1;obtain⟨N,hNN⟩:∃N,N=f.args.length:=⟨_,rfl⟩;have wo:=hid hNN;have hNb:N<=1000000:=by have:=ji f.args;rw[hNN];rw[Fm.size_eq]at hsz;omega
 clear ih hn hP ha2 hbw hsz hNN hal
 go_enter Tryz.func53,Tryz.ntmps53
 go_upto_region 1 with(fail)
 refine aC λ W hW=>?_;have HB:=hid (show Below w.heap.size w W by rw[hW];go_grown);have HE:=hid (show dH W w.heap.size f A2 c2 by show W.heap[w.heap.size]?=_;rw[hW];exact at_new _ _ _ rfl);clear hW;go_wp2_with fail
 go_loopw [0,5] (λ s r wr=>∃(k:Nat) (A':Option Addr) (c':Nat) (R:List Fm) (sl':List (Option Addr×Nat)),k<=N/\r = .int .i64 (k:Int)/\s = .slice A' R.length c'/\Hid (R=gX gs (dM (f.args.take k)))/\wO wr base A' c' R sl'/\Later W wr A A' n R.length c c') (λ _ r _=>N-(intOf r).toNat)
 case atStart=>exact⟨0,A,c,gs,sl,Nat.zero_le _,rfl,by rw[<-HN.out],rfl,HP.out.below HB.out,by rw[<-HN.out];exact Later.refl _ _ _ _⟩
 case round =>
  obtain⟨k,A',c',R,sl',hk,rfl,rfl,Iu,hpr,hla⟩:=hrel;have Qw:=hid hpr;have HLA:=hid hla;have qe9:=hid (show∀x,(Value.slice A n c).ownBlock=some x->base<=x/\x<w.heap.size from λ x hx=>by have:=HP.out.ge (k:=x) (by rw[<-HN.out];exact hx);exact this);have gB:=hid (show Below base W wr from hla.below (λ x hx=>(qe9.out x hx).1) (Nat.le_trans aT.out HB.out.size));have HER:=hid (show dH wr w.heap.size f A2 c2 from(hla.block (lt_of_block HE.out) (λ x hx e=>by have:=(qe9.out x hx).2;omega)).trans HE.out);obtain⟨e0,e1,e2,e3,e4,e5⟩:=HER.out.cells;have qcM:=hid ((HA2.out.kept HB.out).keep (Keeps.of_below gB.out λ _ h=>h))
  have pK:=hid (show R.length+sizes (f.args.drop k)<=1000000 by
   have h1:=DL gs (f.args.take k);rw[<-Iu.out]at h1;have h2:sizes f.args=sizes (f.args.take k)+sizes (f.args.drop k):=by rw[<-jh,List.take_append_drop]
   have h3:=jI.out;rw[Fm.size_eq]at h3
   omega)
  have Xm:=hid (show base<=wr.heap.size from Nat.le_trans (Nat.le_trans aT.out HB.out.size) HLA.out.1.size);rw[<-wo.out]at e4;clear hpr hla
  by_cases hlt:k<N
  ·have hii:(k:Int)<(N:Int):=by omega
   have hi0:(0:Int)<=(k:Int):=by omega
   have hlf:k<f.args.length:=by rw[<-wo.out];exact hlt
   obtain⟨b1,o1,A3,c3,g,rfl,HX,hg⟩:=qcM.out.get hlf;have hgm:g∈f.args:=by rw[<-HX.out];exact dA hlf
   have hgs:R.length+g.size<=1000000:=by
    have h1:=pK.out;rw[List.drop_eq_getElem_cons hlf,sizes]at h1;have h2:f.args[k]=g:=by have:=HX.out;simpa[List.getD,hlf]using this
    rw[h2]at h1;omega
   have HNX:=hid (show gX gs (dM (f.args.take (k+1)))=gX R (aY g)by rw[xw hlf,nD,<-Iu.out,HX.out]);have HC:=hid (HIH.out g hgm R A' c' R.length sl' base _ wr rfl Qw.out (bI.cells5 hg.args) Xm.out hgs);obtain⟨q1,q2,p0,p1,p2,p3,p4,_⟩:=hg;have dX:=hid hlt;have BH:=hid HNX.out;clear hk hlt hlf HX hgm hgs;go_wp2_with (go_at_call 53;(with_reducible refine HC.out.mono ?_);rintro e W9 ⟨A5,c5,sl5,rfl,hp5,hl5⟩;have HP5:=hid hp5;have HL5:=hid hl5;clear hp5 hl5)
   go_roundw
   case rel=>exact⟨k+1,A5,c5,_,sl5,by have:=dX.out;omega,by go_num,rfl,BH.out.symm,HP5.out,HLA.out.trans HL5.out⟩
   case measure=>have:=dX.out;simp[intOf];omega
  ·have hii:¬(k:Int)<(N:Int):=by omega
   have hkN:k=N:=by omega
   have J5:=hid (show R=gX gs (dM f.args)by rw[Iu.out,hkN,wo.out,List.take_length]);have XT:=hid (show gX gs (aY f)=if jV f.op then sJ R f else R by rw[xu,nD,<-J5.out];split <;> rfl)
   have hRl:R.length<=999999:=by
    have h1:=DL gs f.args;rw[<-J5.out]at h1;have h3:=jI.out;rw[Fm.size_eq]at h3;omega
   have XU:=hid (Qw.out.rd (by omega));have TI:=hid (show Later w wr A A' n R.length c c' from(Later.of_below HB.out A n c).trans HLA.out);have qaJ:=hid (SQ f.op wr);have yQ:=hid (SN R A' c' R.length f _ wr rfl XU.out (bI.cells5 qcM.out));rw[<-wo.out]at yQ;obtain⟨rm,hrm⟩:∃r,jV f.op=r:=⟨_,rfl⟩;rw[hrm]at qaJ XT;clear hk hlt hkN hrm;cases rm
   ·have PD:=hid (show gX gs (aY f)=R by rw[XT.out];rfl)
    go_wp2_with (go_at_call 13;(with_reducible refine qaJ.out.mono ?_);rintro e W9 ⟨rfl,rfl⟩)
    go_ret
    exact⟨A',c',sl',by rw[PD.out];rfl,by rw[PD.out];exact Qw.out,by rw[PD.out];exact TI.out⟩
   ·by_cases hm:f∈R
    ·have PD:=hid (show gX gs (aY f)=R by rw[XT.out];show sJ R f=R;unfold sJ;rw[if_pos hm])
     obtain⟨fz,hfz⟩:∃z,findF R f=z:=⟨_,rfl⟩;have hz:¬fz<0:=by rw[<-hfz];unfold findF;rw[if_pos hm];omega
     rw[hfz]at yQ;clear hfz hm
     go_wp2_with (first
      | (go_at_call 13;(with_reducible refine qaJ.out.mono ?_);rintro e W9 ⟨rfl,rfl⟩)
      | (go_at_call 14;(with_reducible refine yQ.out.mono ?_);rintro e W8 ⟨rfl,hb8⟩;have xJ:=hid hb8;clear hb8))
     go_ret
     exact⟨A',c',sl',by rw[PD.out];rfl,by rw[PD.out];exact Qw.out.below xJ.out,by rw[PD.out];exact TI.out.trans (Later.of_below xJ.out _ _ _)⟩
    ·have PD:=hid (show gX gs (aY f)=R ++ [f]by rw[XT.out];show sJ R f=R ++ [f];unfold sJ;rw[if_neg hm])
     obtain⟨fz,hfz⟩:∃z,findF R f=z:=⟨_,rfl⟩;have hz:fz<0:=by rw[<-hfz];unfold findF;rw[if_neg hm];omega
     rw[hfz]at yQ;clear hfz hm;obtain⟨i0,hti,hz0,hz1,hz2⟩:=info_parts je
     go_upto_region 6 with(first
      | (go_at_call 13;(with_reducible refine qaJ.out.mono ?_);rintro e W9 ⟨rfl,rfl⟩)
      | (go_at_call 14;(with_reducible refine yQ.out.mono ?_);rintro e W8 ⟨rfl,hb8⟩;have xJ:=hid hb8;clear hb8 e0 e1 e2 e3 e4 e5))
     have HP8:=hid (Qw.out.below xJ.out);obtain⟨e0,e1,e2,e3,e4,e5⟩:=(HER.out.below xJ.out).cells;rw[<-wo.out]at e4;have HA8:=hid (qcM.out.kept xJ.out);have hba:base<=W8.heap.size+1:=by have:=Xm.out;have:=xJ.out.size;omega
     have hone:∀u ∈ [Value.int .i64 f.op,.string f.name,.int .i64 f.val,.int .i64 f.bound,.slice A2 N c2],u.oneCell'=true:=by simp[Value.oneCell']
     have uJ:=hid (λ o:Obj=>(Below.refl W8.heap.size W8).alloc (Nat.le_refl _) o);go_wp2_with (at_builtin;go_must (refine iK _ rfl (.tmp 29) (.tmp 31) 22 rfl base 24 i0 _ 5 64 Tryz.underlying22 hti hz0 hz1 hz2 rfl (by omega) (.slice A' R.length c') R.length _ rfl (HP8.out.below (uJ.out _)).own _ (some ⟨W8.heap.size,0,none⟩) 1 1 _ rfl (Rd.fresh (D:=aW) rfl trivial rfl (by omega)) hone (by omega) (dJ (by omega)) (by simp;omega) ?_);intro A5 c5 w5 hown5 hg5 Em;have qfA:=hid hown5;have HG5:=hid hg5;have qeR:=hid Em;clear hown5 hg5 Em)
     go_ret
     have Xq:=wO.app (n:=R.length+1) (ms := [f]) (sm := [(A2,c2)]) (HP8.out.below (uJ.out _)) HG5.out (by simp) (by
      have e:bQ [f] [(A2,c2)] = [.int .i64 f.op,.string f.name,.int .i64 f.val,.int .i64 f.bound,.slice A2 N c2]:=by rw[wo.out];rfl
      rw[e];exact qfA.out) qeR.out rfl (λ i hi=>by
      have hi0:i=0:=by simpa using hi
      subst hi0;refine(HA8.out.kept (uJ.out _)).mono ?_;intro x hx _ e;have h1:=(HP8.out.ge e).1;have h2:x<base:=hx
      omega)
     refine⟨A5,c5,sl' ++ [(A2,c2)],by rw[PD.out,List.length_append];rfl,by rw[PD.out];exact Xq,?_⟩;rw[PD.out,List.length_append];refine(TI.out.trans (Later.of_below (xJ.out.trans ((uJ.out _).mono xJ.out.size)) _ _ _)).trans ⟨HG5.out,?_⟩
     rcases qeR.out with h|h
     ·exact .inl h
     ·exact .inr ⟨_,h,Nat.le_refl _⟩
end Go.Proofs.YtdpbgcmfeajigaaGreatDoor
namespace Go.Proofs.YtdpbgcmfeajigaaGreatDoor
open Go.RowKit Go.Shelf
attribute [local go_sem] ak jQ
theorem Gu (w:World):Calls Tryz.prog 109 #[] w λ e w'=>∃b,e = .returned (.slice (some ⟨b,0,none⟩) 10 10)/\b<w'.heap.size/\(∀k,k<10->w'.cell? ⟨b,k,none⟩=some (.string (keysL.getD k ByteArray.empty)))/\Below w.heap.size w w':=by
 go_enter Tryz.func109,Tryz.ntmps109
 go_wp2_with fail
 refine aK λ W hW=>?_;have hb:Below w.heap.size w W:=by rw[hW];go_grown
 have hc:W.heap[w.heap.size]?=some (.cells #[.string ⟨#[105,110,112,117,116]⟩,.string ⟨#[111,117,116,112,117,116]⟩,.string ⟨#[112,97,114,116]⟩,.string ⟨#[97,115,115,117,109,101]⟩,.string ⟨#[103,117,97,114,97,110,116,101,101]⟩,.string ⟨#[116,114,117,101]⟩,.string ⟨#[102,97,108,115,101]⟩,.string ⟨#[97,100,100]⟩,.string ⟨#[100,114,111,112]⟩,.string ⟨#[114,101,112,108,97,99,101]⟩] 9 (0,0)):=by rw[hW];exact heap_alloc_new w _
 clear hW;go_ret
 refine⟨w.heap.size,rfl,lt_of_block hc,λ k hk=>?_,hb⟩
 match k,hk with
 | 0,_|1,_|2,_|3,_|4,_|5,_|6,_|7,_|8,_|9,_=>exact aj hc rfl
theorem Ky {a b:ByteArray}(h:(a.toList==b.toList)=true):a=b:=by
 have h1:a.toList=b.toList:=eq_of_beq h;rw[ByteArray.toList_eq,ByteArray.toList_eq]at h1;cases a;cases b;simp only at h1;rw[Array.toList_inj.1 h1]
theorem Gt {D:Dom}(l:List Sg)(s:ByteArray)(A:Option Addr)(c n:Nat)(w:World)(hn:n=l.length)(h:ng w D A c l) :
  Calls Tryz.prog 71 #[.slice A n c,.string s] w λ e w'=>e = .returned (.int .i64 (iO l s))/\Below w.heap.size w w':=by
 subst hn;have hlen:=h.len.1;have HA:=hid h.old;clear h
 go_enter Tryz.func71,Tryz.ntmps71
 go_wp2_with fail
 go_loopw [5] (λ q wr=>∃i:Nat,i<=l.length/\q = .int .i64 (i:Int)/\Hid (∀j,j<i->(l.getD j default).name≠s)/\Hid (Below w.heap.size w wr)) (λ q _=>l.length-(intOf q).toNat)
 case atStart=>exact⟨0,Nat.zero_le _,rfl,λ j hj=>absurd hj (Nat.not_lt_zero _),Below.refl _ _⟩
 case round =>
  obtain⟨i,hi,rfl,HJ,gB⟩:=hrel
  by_cases hlt:i<l.length
  ·have hii:(i:Int)<l.length:=by omega
   have hi0:(0:Int)<=(i:Int):=by omega
   have dX:=hid hlt;obtain⟨b,o,g,rfl,hl1,HX,c0,c1,c2⟩:=(HA.out.keep (Keeps.of_below gB.out λ _ h=>h)).get hlt;have mZ:=hid HX.out;clear hi HX
   by_cases he:g.name=s
   ·have hs:(g.name.toList==s.toList)=true:=by rw[he];exact beq_self_eq_true _
    have HF:=hid (show iO l s=(i:Int)by
     have h1:kS s (yJ l)=i:=Vo (by rw[sG];exact dX.out) (by rw[rD i dX.out,mZ.out];exact he) λ j hj=>by rw[rD j (by have:=dX.out;omega)];exact HJ.out j hj
     unfold iO fK
     rw[h1,if_pos dX.out])
    clear he;go_wp2_with fail
    go_ret
    exact⟨dD HF.out.symm,gB.out⟩
   ·have hs:(g.name.toList==s.toList)=false:=by
     cases hb:(g.name.toList==s.toList)
     ·rfl
     ·exact absurd (Ky hb) he
    have wL:=hid he;clear he;go_wp2_with fail
    go_roundw
    case rel=>exact⟨i+1,by have:=dX.out;omega,by go_num,λ j hj=>by
     by_cases hji:j<i
     ·exact HJ.out j hji
     ·have:j=i:=by omega
      subst this
      rw[mZ.out];exact wL.out,gB.out⟩
    case measure=>have:=dX.out;simp[intOf];omega
  ·have hii:¬(i:Int)<l.length:=by omega
   have HF:=hid (show iO l s = -1 by
    have h1:l.length<=kS s (yJ l):=(IZ (by rw[sG];exact Nat.le_refl _)).2 λ j hj=>by rw[rD j hj];exact HJ.out j (by omega)
    unfold iO fK
    rw[if_neg (by omega)])
   clear hi;go_wp2_with fail
   go_ret
   exact⟨dD HF.out.symm,gB.out⟩
end Go.Proofs.YtdpbgcmfeajigaaGreatDoor
namespace Go.Proofs.YtdpbgcmfeajigaaGreatDoor
open Go.RowKit Go.Shelf
attribute [local go_sem] ak jQ
def Yc (w:World)(D:Dom)(A:Option Addr)(c:Nat)(ss:List ByteArray):Prop:=Rd w D 1 A ss.length c (ss.map .string)
def inB (l:List ByteArray)(s:ByteArray):Bool:=l.any λ k=>k.toList==s.toList
theorem qet {w:World}{D:Dom}{A:Option Addr}{c k:Nat}{ss:List ByteArray}(h:Yc w D A c ss)(hk:k<ss.length):∃b o x,A=some ⟨b,o,none⟩/\b<w.heap.size/\Hid (ss.getD k ⟨#[]⟩=x)/\w.cell? ⟨b,o+k,none⟩=some (.string x):=by
 obtain⟨b,o,e,hb,hl,hc⟩:=h.2 (by omega);exact⟨b,o,_,e,hl,hid rfl,hc k _ (by simp[List.getD,hk])⟩
theorem qbC {l:List ByteArray}{s:ByteArray}{k:Nat}(hk:k<l.length)(h:((l.getD k ⟨#[]⟩).toList==s.toList)=true):inB l s=true:=by
 unfold inB;rw[List.any_eq_true];exact⟨l.getD k ⟨#[]⟩,by simp[List.getD,hk],h⟩
theorem qeh {l:List ByteArray}{s:ByteArray}(h:∀k,k<l.length->((l.getD k ⟨#[]⟩).toList==s.toList)=false):inB l s=false:=by
 unfold inB;rw[List.any_eq_false];intro x hx;obtain⟨k,hk,rfl⟩:=List.getElem_of_mem hx;have:=h k hk;simp only[List.getD,List.getElem?_eq_getElem hk,Option.getD_some]at this;simp[this]
theorem qbX {D:Dom}(l:List ByteArray)(s:ByteArray)(A:Option Addr)(c n:Nat)(w:World)(hn:n=l.length)(h:Yc w D A c l) :
  Calls Tryz.prog 108 #[.slice A n c,.string s] w λ e w'=>e = .returned (.bool (inB l s))/\Below w.heap.size w w':=by
 subst hn;have hlen:=h.1.2.1;have HH:=hid h;clear h
 go_enter Tryz.func108,Tryz.ntmps108
 go_wp2_with fail
 go_loopw [5] (λ q wr=>∃i:Nat,i<=l.length/\q = .int .i64 (i:Int)/\tq w wr/\Hid (∀k,k<i->((l.getD k ⟨#[]⟩).toList==s.toList)=false)) (λ q _=>l.length-(intOf q).toNat)
 case atStart=>exact⟨0,Nat.zero_le _,rfl,rfl,λ j h=>absurd h (Nat.not_lt_zero _)⟩
 case round =>
  obtain⟨i,hi,rfl,hw,iY⟩:=hrel;obtain rfl:w=wr:=hw.symm
  by_cases hlt:i<l.length
  ·have hii:(i:Int)<l.length:=by omega
   obtain⟨b,o,t,rfl,hlb,HX,x0⟩:=qet HH.out hlt;have dX:=hid hlt;cases d1:(t.toList==s.toList)
   ·have wL:=hid (show((l.getD i ⟨#[]⟩).toList==s.toList)=false by rw[HX.out];exact d1)
    clear HX;go_wp2_with fail
    go_roundw
    case rel =>
     refine⟨i+1,by have:=dX.out;omega,by go_num,rfl,λ j hj=>?_⟩
     by_cases e:j=i
     ·rw[e];exact wL.out
     ·exact iY.out j (by omega)
    case measure=>have:=dX.out;simp[intOf];omega
   ·have HR:=hid (qbC (s:=s) hlt (by rw[HX.out];exact d1))
    clear HX;go_wp2_with fail
    go_ret
    exact⟨aF HR.out.symm,Below.refl _ _⟩
  ·have hii:¬(i:Int)<l.length:=by omega
   have HR:=hid (qeh (s:=s) λ j hj=>iY.out j (by omega));go_wp2_with fail
   go_ret
   exact⟨aF HR.out.symm,Below.refl _ _⟩
theorem qbD {w:World}{b:Nat}(hb:b<w.heap.size)(h:∀k,k<10->w.cell? ⟨b,k,none⟩=some (.string (keysL.getD k ByteArray.empty))):Yc w aW (some ⟨b,0,none⟩) 10 keysL:=by
 refine⟨⟨rfl,by decide,by decide,by decide⟩,λ _=>⟨b,0,rfl,trivial,hb,λ j u hu=>?_⟩⟩
 have hj:j<10:=by
  rcases Nat.lt_or_ge j 10 with h1|h1
  ·exact h1
  ·rw[List.getElem?_eq_none (by exact h1)]at hu;cases hu
 rw[Nat.zero_add,h j hj]
 match j,hj with
 | 0,_|1,_|2,_|3,_|4,_|5,_|6,_|7,_|8,_|9,_=>exact hu
theorem qbJ {s:ByteArray}(h:inB keysL s=true):nameB s=false:=by
 unfold nameB;rw[show keysL.any (λ k=>k.toList==s.toList)=true from h];simp
theorem RV {s:ByteArray}(h0:1<=s.size)(h1:s.size<=12)(h:inB keysL s=false):nameB s=pO s.size (dZ s):=by
 unfold nameB;rw[show keysL.any (λ k=>k.toList==s.toList)=false from h,decide_eq_true h0,decide_eq_true h1];simp
theorem SY (s:ByteArray)(w:World) :
  Calls Tryz.prog 70 #[.string s] w λ e w'=>e = .returned (.bool (nameB s))/\Below w.heap.size w w':=by
 by_cases hs:s.size<1
 ·have HR:=hid (zD hs)
  have hsi:(s.size:Int)<1:=by omega
  have hd:decide ((s.size:Int)<1)=true:=decide_eq_true hsi;clear hs
  go_enter Tryz.func70,Tryz.ntmps70
  go_wp2_with fail
  go_ret
  exact⟨aF HR.out.symm,by go_grown⟩
 by_cases hl:12<s.size
 ·have HR:=hid (CP hl)
  have hsi:¬(s.size:Int)<1:=by omega
  have uj:12<(s.size:Int):=by omega
  have hd:decide ((s.size:Int)<1)=false:=decide_eq_false hsi;have hd2:decide (12<(s.size:Int))=true:=decide_eq_true uj;clear hs hl
  go_enter Tryz.func70,Tryz.ntmps70
  go_wp2_with fail
  go_ret
  exact⟨aF HR.out.symm,by go_grown⟩
 have hsi:¬(s.size:Int)<1:=by omega
 have uj:¬12<(s.size:Int):=by omega
 have hd:decide ((s.size:Int)<1)=false:=decide_eq_false hsi;have hd2:decide (12<(s.size:Int))=false:=decide_eq_false uj;have HS:=hid (show 1<=s.size/\s.size<=12 by omega);clear hs hl;have Pz:Hid (∀(b:Nat) (W:World),b<W.heap.size->(∀k,k<10->W.cell? ⟨b,k,none⟩=some (.string (keysL.getD k ByteArray.empty)))->Calls Tryz.prog 108 #[.slice (some ⟨b,0,none⟩) 10 10,.string s] W λ e w'=>e = .returned (.bool (inB keysL s))/\Below W.heap.size W w'):=hid λ b W h1 h2=>qbX keysL s _ 10 10 W rfl (qbD h1 h2);cases hin:inB keysL s
 rotate_left
 ·have HR:=hid (qbJ hin)
  rw[hin]at Pz;clear hin
  go_enter Tryz.func70,Tryz.ntmps70
  go_wp2_with (first|(go_at_call 109;(with_reducible refine(Gu _).mono ?_);rintro e V ⟨b,rfl,hlb,hkc,hbv⟩;have LU:=hid hlb;have HKC:=hid hkc;have iD:=hid hbv;clear hlb hkc hbv)|(go_at_call 108;(with_reducible refine(Pz.out _ _ LU.out HKC.out).mono ?_);rintro e V2 ⟨rfl,hb2⟩;have HB2:=hid (au iD.out hb2);clear hb2))
  go_ret
  exact⟨aF HR.out.symm,HB2.out⟩
 have HNI:=hid (RV HS.out.1 HS.out.2 hin);rw[hin]at Pz;clear hin
 go_enter Tryz.func70,Tryz.ntmps70
 go_upto_region 3 with(first|(go_at_call 109;(with_reducible refine(Gu _).mono ?_);rintro e V ⟨b,rfl,hlb,hkc,hbv⟩;have LU:=hid hlb;have HKC:=hid hkc;have iD:=hid hbv;clear hlb hkc hbv)|(go_at_call 108;(with_reducible refine(Pz.out _ _ LU.out HKC.out).mono ?_);rintro e V2 ⟨rfl,hb2⟩;have HB2:=hid (au iD.out hb2);clear hb2))
 clear Pz LU HKC iD;go_wp2_with fail
 go_loopw [3] (λ q wr=>∃i:Nat,i<=s.size/\q = .int .i64 (i:Int)/\tq V2 wr/\Hid (jc i (dZ s))) (λ q _=>s.size-(intOf q).toNat)
 case atStart=>exact⟨0,Nat.zero_le _,rfl,rfl,jc.zero _⟩
 case round =>
  obtain⟨i,hi,rfl,hw,oI⟩:=hrel;obtain rfl:V2=wr:=hw.symm
  by_cases hlt:i<s.size
  ·have hii:(i:Int)<s.size:=by omega
   have dX:=hid hlt;have HX:=hid (show tN s i=((s[i]'hlt).toNat:Int)by unfold tN;simp[hlt]);have hcs:(97<=((s[i]'hlt).toNat:Int)/\((s[i]'hlt).toNat:Int)<=122)\/(((s[i]'hlt).toNat:Int)<48)\/(48<=((s[i]'hlt).toNat:Int)/\((s[i]'hlt).toNat:Int)<=57)\/(((s[i]'hlt).toNat:Int)=95)\/(57<((s[i]'hlt).toNat:Int)/\((s[i]'hlt).toNat:Int)<97/\((s[i]'hlt).toNat:Int)≠95)\/(122<((s[i]'hlt).toNat:Int)):=by omega
   rcases hcs with hc|hc|hc|hc|hc|hc
   ·have a1:97<=((s[i]'hlt).toNat:Int):=by omega
    have da1:decide (97<=((s[i]'hlt).toNat:Int))=true:=decide_eq_true a1;have a2:((s[i]'hlt).toNat:Int)<=122:=by omega
    have da2:decide (((s[i]'hlt).toNat:Int)<=122)=true:=decide_eq_true a2;have b1:48<=((s[i]'hlt).toNat:Int):=by omega
    have Ny:decide (48<=((s[i]'hlt).toNat:Int))=true:=decide_eq_true b1;have b2:¬((s[i]'hlt).toNat:Int)<=57:=by omega
    have db2:decide (((s[i]'hlt).toNat:Int)<=57)=false:=decide_eq_false b2;have db3:(((s[i]'hlt).toNat:Int)==95)=false:=cu (by omega);have lM:=hid (Ot (s:=s) (i:=i) (by rw[HX.out];omega) (by rw[HX.out];omega));clear hc;go_wp2_with fail
    go_roundw
    case rel=>exact⟨i+1,by have:=dX.out;omega,by go_num,rfl,oI.out.succ lM.out⟩
    case measure=>have:=dX.out;simp[intOf];omega
   ·have a1:¬97<=((s[i]'hlt).toNat:Int):=by omega
    have da1:decide (97<=((s[i]'hlt).toNat:Int))=false:=decide_eq_false a1;have a2:((s[i]'hlt).toNat:Int)<=122:=by omega
    have da2:decide (((s[i]'hlt).toNat:Int)<=122)=true:=decide_eq_true a2;have b1:¬48<=((s[i]'hlt).toNat:Int):=by omega
    have Ny:decide (48<=((s[i]'hlt).toNat:Int))=false:=decide_eq_false b1;have b2:((s[i]'hlt).toNat:Int)<=57:=by omega
    have db2:decide (((s[i]'hlt).toNat:Int)<=57)=true:=decide_eq_true b2;have db3:(((s[i]'hlt).toNat:Int)==95)=false:=cu (by omega)
    by_cases hz:i=0
    ·subst hz
     have HR:=hid (jf dX.out (show dZ s 0=false by rw[oz,HX.out];unfold jK;simp only[Bool.and_eq_false_iff,decide_eq_false_iff_not];omega));clear hc;go_wp2_with fail
     go_ret
     exact⟨aF HR.out.symm,HB2.out⟩
    ·have HR:=hid (jf dX.out (show dZ s i=false by unfold dZ jK mY;rw[HX.out];simp only[Bool.or_eq_false_iff,Bool.and_eq_false_iff,decide_eq_false_iff_not,beq_eq_false_iff_ne];omega))
     have hzi:¬(i:Int)=0:=by omega
     have ez:((i:Int)==0)=false:=cu hzi;clear hc hz;go_wp2_with fail
     go_ret
     exact⟨aF HR.out.symm,HB2.out⟩
   ·have a1:¬97<=((s[i]'hlt).toNat:Int):=by omega
    have da1:decide (97<=((s[i]'hlt).toNat:Int))=false:=decide_eq_false a1;have a2:((s[i]'hlt).toNat:Int)<=122:=by omega
    have da2:decide (((s[i]'hlt).toNat:Int)<=122)=true:=decide_eq_true a2;have b1:48<=((s[i]'hlt).toNat:Int):=by omega
    have Ny:decide (48<=((s[i]'hlt).toNat:Int))=true:=decide_eq_true b1;have b2:((s[i]'hlt).toNat:Int)<=57:=by omega
    have db2:decide (((s[i]'hlt).toNat:Int)<=57)=true:=decide_eq_true b2;have db3:(((s[i]'hlt).toNat:Int)==95)=false:=cu (by omega)
    by_cases hz:i=0
    ·subst hz
     have HR:=hid (jf dX.out (show dZ s 0=false by rw[oz,HX.out];unfold jK;simp only[Bool.and_eq_false_iff,decide_eq_false_iff_not];omega));clear hc;go_wp2_with fail
     go_ret
     exact⟨aF HR.out.symm,HB2.out⟩
    ·have lM:=hid (show dZ s i=true by unfold dZ jK mY;rw[HX.out,decide_eq_true (show 0<i by omega),decide_eq_true b1,decide_eq_true b2];simp)
     have hzi:¬(i:Int)=0:=by omega
     have ez:((i:Int)==0)=false:=cu hzi;clear hc hz;go_wp2_with fail
     go_roundw
     case rel=>exact⟨i+1,by have:=dX.out;omega,by go_num,rfl,oI.out.succ lM.out⟩
     case measure=>have:=dX.out;simp[intOf];omega
   ·have a1:¬97<=((s[i]'hlt).toNat:Int):=by omega
    have da1:decide (97<=((s[i]'hlt).toNat:Int))=false:=decide_eq_false a1;have a2:((s[i]'hlt).toNat:Int)<=122:=by omega
    have da2:decide (((s[i]'hlt).toNat:Int)<=122)=true:=decide_eq_true a2;have b1:48<=((s[i]'hlt).toNat:Int):=by omega
    have Ny:decide (48<=((s[i]'hlt).toNat:Int))=true:=decide_eq_true b1;have b2:¬((s[i]'hlt).toNat:Int)<=57:=by omega
    have db2:decide (((s[i]'hlt).toNat:Int)<=57)=false:=decide_eq_false b2;have db3:(((s[i]'hlt).toNat:Int)==95)=true:=beq_iff_eq.2 (by omega)
    by_cases hz:i=0
    ·subst hz
     have HR:=hid (jf dX.out (show dZ s 0=false by rw[oz,HX.out];unfold jK;simp only[Bool.and_eq_false_iff,decide_eq_false_iff_not];omega));clear hc;go_wp2_with fail
     go_ret
     exact⟨aF HR.out.symm,HB2.out⟩
    ·have lM:=hid (show dZ s i=true by unfold dZ jK mY;rw[HX.out,decide_eq_true (show 0<i by omega),db3];simp)
     have hzi:¬(i:Int)=0:=by omega
     have ez:((i:Int)==0)=false:=cu hzi;clear hc hz;go_wp2_with fail
     go_roundw
     case rel=>exact⟨i+1,by have:=dX.out;omega,by go_num,rfl,oI.out.succ lM.out⟩
     case measure=>have:=dX.out;simp[intOf];omega
   ·have a1:¬97<=((s[i]'hlt).toNat:Int):=by omega
    have da1:decide (97<=((s[i]'hlt).toNat:Int))=false:=decide_eq_false a1;have a2:((s[i]'hlt).toNat:Int)<=122:=by omega
    have da2:decide (((s[i]'hlt).toNat:Int)<=122)=true:=decide_eq_true a2;have b1:48<=((s[i]'hlt).toNat:Int):=by omega
    have Ny:decide (48<=((s[i]'hlt).toNat:Int))=true:=decide_eq_true b1;have b2:¬((s[i]'hlt).toNat:Int)<=57:=by omega
    have db2:decide (((s[i]'hlt).toNat:Int)<=57)=false:=decide_eq_false b2;have db3:(((s[i]'hlt).toNat:Int)==95)=false:=cu (by omega)
    by_cases hz:i=0
    ·subst hz
     have HR:=hid (jf dX.out (show dZ s 0=false by rw[oz,HX.out];unfold jK;simp only[Bool.and_eq_false_iff,decide_eq_false_iff_not];omega));clear hc;go_wp2_with fail
     go_ret
     exact⟨aF HR.out.symm,HB2.out⟩
    ·have HR:=hid (jf dX.out (show dZ s i=false by unfold dZ jK mY;rw[HX.out];simp only[Bool.or_eq_false_iff,Bool.and_eq_false_iff,decide_eq_false_iff_not,beq_eq_false_iff_ne];omega))
     have hzi:¬(i:Int)=0:=by omega
     have ez:((i:Int)==0)=false:=cu hzi;clear hc hz;go_wp2_with fail
     go_ret
     exact⟨aF HR.out.symm,HB2.out⟩
   ·have a1:97<=((s[i]'hlt).toNat:Int):=by omega
    have da1:decide (97<=((s[i]'hlt).toNat:Int))=true:=decide_eq_true a1;have a2:¬((s[i]'hlt).toNat:Int)<=122:=by omega
    have da2:decide (((s[i]'hlt).toNat:Int)<=122)=false:=decide_eq_false a2;have b1:48<=((s[i]'hlt).toNat:Int):=by omega
    have Ny:decide (48<=((s[i]'hlt).toNat:Int))=true:=decide_eq_true b1;have b2:¬((s[i]'hlt).toNat:Int)<=57:=by omega
    have db2:decide (((s[i]'hlt).toNat:Int)<=57)=false:=decide_eq_false b2;have db3:(((s[i]'hlt).toNat:Int)==95)=false:=cu (by omega)
    by_cases hz:i=0
    ·subst hz
     have HR:=hid (jf dX.out (show dZ s 0=false by rw[oz,HX.out];unfold jK;simp only[Bool.and_eq_false_iff,decide_eq_false_iff_not];omega));clear hc;go_wp2_with fail
     go_ret
     exact⟨aF HR.out.symm,HB2.out⟩
    ·have HR:=hid (jf dX.out (show dZ s i=false by unfold dZ jK mY;rw[HX.out];simp only[Bool.or_eq_false_iff,Bool.and_eq_false_iff,decide_eq_false_iff_not,beq_eq_false_iff_ne];omega))
     have hzi:¬(i:Int)=0:=by omega
     have ez:((i:Int)==0)=false:=cu hzi;clear hc hz;go_wp2_with fail
     go_ret
     exact⟨aF HR.out.symm,HB2.out⟩
  ·have hii:¬(i:Int)<s.size:=by omega
   have HR:=hid (show nameB s=true by rw[HNI.out];exact oI.out.all (by omega));go_wp2_with fail
   go_ret
   exact⟨aF HR.out.symm,HB2.out⟩
theorem xB {s:ByteArray}{w:World}(r:Bool)(hr:nameB s=r):Calls Tryz.prog 70 #[.string s] w λ e w'=>e = .returned (.bool r)/\Below w.heap.size w w':=by
 subst hr;exact SY s w
theorem Bj {D:Dom}{l:List Sg}{s:ByteArray}{A:Option Addr}{c n:Nat}{w:World}(r:Int)(hr:iO l s=r)(hn:n=l.length)(h:ng w D A c l) :
  Calls Tryz.prog 71 #[.slice A n c,.string s] w λ e w'=>e = .returned (.int .i64 r)/\Below w.heap.size w w':=by
 subst hr;exact Gt l s A c n w hn h
theorem Vm {l:List Sg}{i:Nat}(hi:i<l.length){s:ByteArray}(hs:(l.getD i default).name=s):iO l s=(fK l s:Int)/\fK l s<=i:=by
 have h1:=FI hi hs;refine⟨?_,h1⟩;unfold iO;rw[if_pos (by omega)]
theorem D6 {D:Dom}(l:List Sg)(A:Option Addr)(c n:Nat)(w:World)(hn:n=l.length)(h:ng w D A c l) :
  Calls Tryz.prog 23 #[.slice A n c] w λ e w'=>e = .returned (.bool (dN l))/\Below w.heap.size w w':=by
 subst hn;have hlen:=h.len.1;have HH:=hid h.old;clear h
 by_cases h1:l.length<1
 ·have HR:=hid (show dN l=false by unfold dN;rw[decide_eq_false (by omega)];rfl)
  have d1':(l.length:Int)<1:=by omega
  have d1:decide ((l.length:Int)<1)=true:=decide_eq_true d1';clear h1
  go_enter Tryz.func23,Tryz.ntmps23
  go_wp2_with fail
  go_ret
  exact⟨aF HR.out.symm,by go_grown⟩
 by_cases h2:6<l.length
 ·have HR:=hid (show dN l=false by unfold dN;rw[decide_eq_false (show¬l.length<=6 by omega)];simp)
  have d1':¬(l.length:Int)<1:=by omega
  have d2':6<(l.length:Int):=by omega
  have d1:decide ((l.length:Int)<1)=false:=decide_eq_false d1';have d2:decide (6<(l.length:Int))=true:=decide_eq_true d2';clear h1 h2
  go_enter Tryz.func23,Tryz.ntmps23
  go_wp2_with fail
  go_ret
  exact⟨aF HR.out.symm,by go_grown⟩
 have d1':¬(l.length:Int)<1:=by omega
 have d2':¬6<(l.length:Int):=by omega
 have d1:decide ((l.length:Int)<1)=false:=decide_eq_false d1';have d2:decide (6<(l.length:Int))=false:=decide_eq_false d2';have H16:=hid (show 1<=l.length/\l.length<=6 by omega);clear h1 h2
 go_enter Tryz.func23,Tryz.ntmps23
 go_wp2_with fail
 go_loopw [3,4] (λ r q wr=>∃(i:Nat) (P:Int),i<=l.length/\q = .int .i64 (i:Int)/\r = .int .i64 P/\Hid (BM l i P)/\Hid (jc i (C9 l))/\Hid (Below w.heap.size w wr)) (λ _ q _=>l.length-(intOf q).toNat)
 case atStart=>exact⟨0,1,Nat.zero_le _,rfl,rfl,BM.zero l,jc.zero _,Below.refl _ _⟩
 case round =>
  obtain⟨i,P,hi,rfl,rfl,HP,HS,bH⟩:=hrel
  by_cases hlt:i<l.length
  ·have hii:(i:Int)<l.length:=by omega
   have HI6:=hid (show i<6 by have:=H16.out;omega);have dX:=hid hlt;have HHr:=hid (HH.out.any bH.out);obtain⟨b,o,s,rfl,hlb,HX,x0,x1,x2⟩:=HHr.out.get hlt;have lM:=hid (show C9 l i=(nameB s.name&&decide (2<=s.size)&&decide (s.size<=4)&&decide (i<=fK l s.name))by unfold C9;rw[HX.out]);have MG:=hid (show(l.getD i default).name=s.name by rw[HX.out]);have X3:=hid (show(l.getD i default).size=s.size by rw[HX.out]);have Qv:=hid (Vm hlt MG.out);clear HX;cases hq:nameB s.name
   ·have HR:=hid (xE dX.out (by rw[lM.out,hq];rfl))
    have HQ:=hid hq;clear hq;go_wp2_with (go_at_call 70;(with_reducible refine(xB false HQ.out).mono ?_);rintro e w2 ⟨rfl,hb2⟩;have HB2:=hid (au bH.out hb2);clear hb2)
    go_ret
    exact⟨aF HR.out.symm,HB2.out⟩
   have HQ:=hid hq;clear hq;obtain⟨fk,hfk⟩:∃fk,fK l s.name=fk:=⟨_,rfl⟩;rw[hfk]at lM Qv;have HFK:=hid hfk;have hfi:fk<=i:=Qv.out.2;clear hfk
   by_cases hfe:fk=i
   rotate_left
   ·have HR:=hid (xE dX.out (by rw[lM.out,decide_eq_false (show¬i<=fk by omega)];simp))
    have dfi:¬(fk:Int)=(i:Int):=by omega
    have df:((fk:Int) !=(i:Int))=true:=bne_iff_ne.2 dfi;clear hfe;go_wp2_with (first|(go_at_call 70;(with_reducible refine(xB true HQ.out).mono ?_);rintro e w2 ⟨rfl,hb2⟩;have HB2:=hid hb2;have y0:=(hb2.cell (p:=⟨b,o+i*3,none⟩) hlb).trans x0;have y2:=(hb2.cell (p:=⟨b,o+i*3+2,none⟩) hlb).trans x2;have hl2:=Nat.lt_of_lt_of_le hlb hb2.size;clear hb2 x0 x1 x2 hlb)|(go_at_call 71;(with_reducible refine(Bj (fk:Int) Qv.out.1 rfl (HHr.out.any HB2.out)).mono ?_);rintro e w3 ⟨rfl,hb3⟩;have HB3:=hid (au HB2.out hb3);have z0:=(hb3.cell (p:=⟨b,o+i*3,none⟩) hl2).trans y0;have z2:=(hb3.cell (p:=⟨b,o+i*3+2,none⟩) hl2).trans y2;have hl3:=Nat.lt_of_lt_of_le hl2 hb3.size;clear hb3 y0 y2 hl2))
    go_ret
    exact⟨aF HR.out.symm,au bH.out HB3.out⟩
   have df:((fk:Int) !=(i:Int))=false:=by simp[hfe]
   have dfi:(fk:Int)=(i:Int):=by omega
   by_cases hs2:s.size<2
   ·have HR:=hid (xE dX.out (by rw[lM.out,decide_eq_false (show¬2<=s.size by omega)];simp))
    have ds2:decide (s.size<2)=true:=decide_eq_true hs2;go_wp2_with (first|(go_at_call 70;(with_reducible refine(xB true HQ.out).mono ?_);rintro e w2 ⟨rfl,hb2⟩;have HB2:=hid hb2;have y0:=(hb2.cell (p:=⟨b,o+i*3,none⟩) hlb).trans x0;have y2:=(hb2.cell (p:=⟨b,o+i*3+2,none⟩) hlb).trans x2;have hl2:=Nat.lt_of_lt_of_le hlb hb2.size;clear hb2 x0 x1 x2 hlb)|(go_at_call 71;(with_reducible refine(Bj (fk:Int) Qv.out.1 rfl (HHr.out.any HB2.out)).mono ?_);rintro e w3 ⟨rfl,hb3⟩;have HB3:=hid (au HB2.out hb3);have z0:=(hb3.cell (p:=⟨b,o+i*3,none⟩) hl2).trans y0;have z2:=(hb3.cell (p:=⟨b,o+i*3+2,none⟩) hl2).trans y2;have hl3:=Nat.lt_of_lt_of_le hl2 hb3.size;clear hb3 y0 y2 hl2))
    go_ret
    exact⟨aF HR.out.symm,au bH.out HB3.out⟩
   have ds2:decide (s.size<2)=false:=decide_eq_false hs2
   by_cases hs4:4<s.size
   ·have HR:=hid (xE dX.out (by rw[lM.out,decide_eq_false (show¬s.size<=4 by omega)];simp))
    have ds4:decide (4<s.size)=true:=decide_eq_true hs4;go_wp2_with (first|(go_at_call 70;(with_reducible refine(xB true HQ.out).mono ?_);rintro e w2 ⟨rfl,hb2⟩;have HB2:=hid hb2;have y0:=(hb2.cell (p:=⟨b,o+i*3,none⟩) hlb).trans x0;have y2:=(hb2.cell (p:=⟨b,o+i*3+2,none⟩) hlb).trans x2;have hl2:=Nat.lt_of_lt_of_le hlb hb2.size;clear hb2 x0 x1 x2 hlb)|(go_at_call 71;(with_reducible refine(Bj (fk:Int) Qv.out.1 rfl (HHr.out.any HB2.out)).mono ?_);rintro e w3 ⟨rfl,hb3⟩;have HB3:=hid (au HB2.out hb3);have z0:=(hb3.cell (p:=⟨b,o+i*3,none⟩) hl2).trans y0;have z2:=(hb3.cell (p:=⟨b,o+i*3+2,none⟩) hl2).trans y2;have hl3:=Nat.lt_of_lt_of_le hl2 hb3.size;clear hb3 y0 y2 hl2))
    go_ret
    exact⟨aF HR.out.symm,au bH.out HB3.out⟩
   have ds4:decide (4<s.size)=false:=decide_eq_false hs4
   have qdm:=hid (show C9 l i=true by
    rw[lM.out,HQ.out,decide_eq_true (show 2<=s.size by omega),decide_eq_true (show s.size<=4 by omega),decide_eq_true (show i<=fk by omega)]
    rfl)
   have HW:=hid (HP.out.wrap (s:=s.size) HI6.out (by omega) (by omega));have HPN:=hid (HP.out.succ dX.out HI6.out X3.out (by omega) (by omega));have hwr:=HW.out
   go_wp2_with (first|(go_at_call 70;(with_reducible refine(xB true HQ.out).mono ?_);rintro e w2 ⟨rfl,hb2⟩;have HB2:=hid hb2;have y0:=(hb2.cell (p:=⟨b,o+i*3,none⟩) hlb).trans x0;have y2:=(hb2.cell (p:=⟨b,o+i*3+2,none⟩) hlb).trans x2;have hl2:=Nat.lt_of_lt_of_le hlb hb2.size;clear hb2 x0 x1 x2 hlb)|(go_at_call 71;(with_reducible refine(Bj (fk:Int) Qv.out.1 rfl (HHr.out.any HB2.out)).mono ?_);rintro e w3 ⟨rfl,hb3⟩;have HB3:=hid (au HB2.out hb3);have z0:=(hb3.cell (p:=⟨b,o+i*3,none⟩) hl2).trans y0;have z2:=(hb3.cell (p:=⟨b,o+i*3+2,none⟩) hl2).trans y2;have hl3:=Nat.lt_of_lt_of_le hl2 hb3.size;clear hb3 y0 y2 hl2))
   go_roundw
   case rel=>exact⟨i+1,P*s.size,by have:=dX.out;omega,by go_num,(by first|rfl|rw[hwr]),HPN.out,HS.out.succ qdm.out,au bH.out HB3.out⟩
   case measure=>have:=dX.out;simp[intOf];omega
  ·have hii:¬(i:Int)<l.length:=by omega
   have Qw:=hid (show P=mV l by have:=HP.out.is;rw[List.take_of_length_le (by omega)]at this;exact this)
   have HV:=hid (show dN l=decide (P<=64)by
    unfold dN
    rw[decide_eq_true H16.out.1,decide_eq_true H16.out.2,HS.out.all (by omega),<-Qw.out];rfl)
   go_wp2_with fail
   go_ret
   exact⟨aF HV.out.symm,bH.out⟩
end Go.Proofs.YtdpbgcmfeajigaaGreatDoor
