/-
  Parts of a proof: KA KB KC.
-/
import Derived.Test.YtdpbgcmfeajigaaGreatDoorA10
import Derived.Test.YtdpbgcmfeajigaaGreatDoorA12
set_option linter.unusedSimpArgs false
set_option linter.unusedVariables false
set_option maxHeartbeats 8000000
set_option maxRecDepth 100000
namespace Go.Proofs.YtdpbgcmfeajigaaGreatDoor
theorem qE {gs:List Fm}{i:Nat}(hi:i<gs.length):gs.getD i default∈gs:=by simp[List.getD,hi]
theorem MS {p:Fm->Bool}(f:Fm):∀ins,allI (λ x=>p x.1) ins f ↔ allI (λ x=>p x.1) false f:=by
 induction f using Fm.ind with
 | h f ih =>
  intro ins;rw[dL,dL];exact and_congr_right λ _=>⟨λ h g hg=>(ih g hg _).2 ((ih g hg _).1 (h g hg)),λ h g hg=>(ih g hg _).2 ((ih g hg _).1 (h g hg))⟩
theorem wP {l:List Fm}{P:Fm->Prop}:(∀g,g∈l->P g) ↔ ∀j,j<l.length->P (l.getD j default):=by
 constructor
 ·exact λ h j hj=>h _ (qE hj)
 ·intro h g hg
  obtain⟨i,hi,rfl⟩:=List.getElem_of_mem hg;have:=h i hi
  rwa [List.getD_eq_getElem?_getD,List.getElem?_eq_getElem hi]at this
theorem mD (p:Fm->Bool)(f:Fm):allB (λ x=>p x.1) f=(p f&&pO f.args.length λ i=>allB (λ x=>p x.1) (f.args.getD i default)):=by
 rw[Bool.eq_iff_iff,Bool.and_eq_true,iZ,qJ,dL];refine and_congr_right λ _=>?_;rw[wP];exact⟨λ h j hj=>(MS _ _).1 (h j hj),λ h j hj=>(MS _ _).2 (h j hj)⟩
theorem AO {o:Int}(h:¬isOp o=true):o<1\/20<=o:=by
 unfold isOp at h;simp at h;omega
theorem Ci {o:Int}(h:¬isOp o=true):aJ o=fP:=by unfold aJ;rw[if_neg h]
def vW (o:Int):Bool:=decide (15<=o)&&decide (o<=19)
def Vt (o:Int):Bool:=decide (8<=o)&&decide (o<=14)
def wZ (o:Int):Bool:=(decide (1<=o)&&decide (o<=6)) || o==8 || o==9 || o==10 || o==15 || o==16 || o==17
theorem qer (o:Int):(aJ o).past=vW o:=by
 by_cases h:isOp o=true
 ·rcases qU h with rfl|rfl|rfl|rfl|rfl|rfl|rfl|rfl|rfl|rfl|rfl|rfl|rfl|rfl|rfl|rfl|rfl|rfl|rfl <;> rfl
 ·rw[Ci h]
  unfold vW;have:=AO h;show false=_
  symm
  simp;omega
theorem qct (o:Int):(aJ o).future=Vt o:=by
 by_cases h:isOp o=true
 ·rcases qU h with rfl|rfl|rfl|rfl|rfl|rfl|rfl|rfl|rfl|rfl|rfl|rfl|rfl|rfl|rfl|rfl|rfl|rfl|rfl <;> rfl
 ·rw[Ci h]
  unfold Vt;have:=AO h;show false=_
  symm
  simp;omega
theorem qbI (o:Int):(aJ o).loose=wZ o:=by
 by_cases h:isOp o=true
 ·rcases qU h with rfl|rfl|rfl|rfl|rfl|rfl|rfl|rfl|rfl|rfl|rfl|rfl|rfl|rfl|rfl|rfl|rfl|rfl|rfl <;> rfl
 ·rw[Ci h]
  unfold wZ;have:=AO h;show false=_
  symm
  simp;omega
def xq (f:Fm):Bool := !Vt f.op
def vU (f:Fm):Bool:=wZ f.op&&Ba f
def jF (f:Fm):Bool:=allB (λ x=>xq x.1) f
def gu (f:Fm):Bool:=allB (λ x=>bW x.1) f
def lG (f:Fm):Bool:=allB (λ x=>vU x.1) f
theorem Oz (f:Fm):jF f=allB iC f:=by
 unfold jF
 congr 1
 funext x
 unfold xq iC;rw[qct]
theorem Zx (f:Fm):allI oh true f ↔ jF f=true:=by
 induction f using Fm.ind with
 | h f ih =>
  rw[dL];unfold jF;rw[mD,Bool.and_eq_true,iZ];have h1:oh (f,true)=xq f:=by unfold oh xq;rw[<-qct];simp
  rw[h1];refine and_congr_right λ _=>?_;rw[wP];exact forall_congr' λ j=>forall_congr' λ hj=>ih _ (qE hj)
theorem qbG (f:Fm):jF f=true->allI oh false f := λ h=>by
 rw[Oz]at h;exact KZ h
def wG (f:Fm):Bool:=allB oh f
theorem VW (f:Fm):wG f=pO f.args.length λ i=>wG (f.args.getD i default)&&(!vW f.op || jF (f.args.getD i default)):=by
 unfold wG;rw[Bool.eq_iff_iff,iZ,qJ,dL];have h1:oh (f,false)=true:=by unfold oh;simp
 rw[h1,wP,qer];simp only[true_and,Bool.false_or];refine forall_congr' λ j=>forall_congr' λ hj=>?_;rw[Bool.and_eq_true,Bool.or_eq_true];cases hp:vW f.op
 ·simp[qJ]
 ·simp only[Bool.not_true,Bool.false_eq_true,false_or]
  rw[Zx];exact⟨λ h=>⟨qbG _ h,h⟩,λ h=>h.2⟩
theorem Nv (f:Fm):∀ins,allI bU ins f ↔ gu f=true/\lG f=true/\allI oh ins f:=by
 induction f using Fm.ind with
 | h f ih =>
  intro ins;unfold gu lG;rw[dL,dL,mD,mD,Bool.and_eq_true,Bool.and_eq_true,iZ,iZ]
  have hq:bU (f,ins)=true ↔ bW f=true/\vU f=true/\oh (f,ins)=true:=by
   unfold bU vU oh;rw[<-qbI];simp only[Bool.and_eq_true]
   constructor
   ·rintro⟨⟨⟨a,b⟩,c⟩,d⟩;exact⟨b,⟨a,d⟩,c⟩
   ·rintro⟨b,⟨a,d⟩,c⟩;exact⟨⟨⟨a,b⟩,c⟩,d⟩
  rw[hq,wP,wP]
  constructor
  ·rintro⟨⟨a,b,c⟩,h⟩
   exact⟨⟨a,λ j hj=>((ih _ (qE hj) _).1 (h j hj)).1⟩,⟨b,λ j hj=>((ih _ (qE hj) _).1 (h j hj)).2.1⟩,c,λ j hj=>((ih _ (qE hj) _).1 (h j hj)).2.2⟩
  ·rintro⟨⟨a,h1⟩,⟨b,h2⟩,c,h3⟩
   exact⟨⟨a,b,c⟩,λ j hj=>(ih _ (qE hj) _).2 ⟨h1 j hj,h2 j hj,h3 j hj⟩⟩
theorem OX {f:Fm}(h:bW f=true)(h4:f.op=4):0<f.args.length:=by
 have:=(jo h).2.1;rw[h4]at this;exact this
theorem Yx {f:Fm}(h:gu f=true)(h4:f.op=4):0<f.args.length:=by
 unfold gu at h;rw[mD,Bool.and_eq_true]at h;exact OX h.1 h4
def jk (o:Int):Int×Int×Bool :=
 if o=1\/o=2\/o=3 then(0,0,true)
 else if o=4\/o=8\/o=11\/o=12\/o=13\/o=14\/o=15\/o=18\/o=19 then(1,1,true)
 else if o=7\/o=9\/o=10\/o=16\/o=17 then(2,2,true)
 else if o=5\/o=6 then(2, -1,true)
 else(0,0,false)
theorem QU {o:Int}(h:¬isOp o=true):jk o=(0,0,false):=by
 have:=AO h;unfold jk;rw[if_neg (by omega),if_neg (by omega),if_neg (by omega),if_neg (by omega)]
end Go.Proofs.YtdpbgcmfeajigaaGreatDoor
namespace Go.Proofs.YtdpbgcmfeajigaaGreatDoor
open Go.RowKit Go.Shelf
attribute [local go_sem] ak
theorem Jp {f:Fm}(h:gu f=true){i:Nat}(hi:i<f.args.length):gu (f.args.getD i default)=true:=by
 unfold gu at h;rw[mD,Bool.and_eq_true]at h;exact iZ.1 h.2 i hi
theorem kY (f:Fm):∀{D:Dom} (v:Value) (w:World) (h:bI w D v f) (hd:f.depth<=1000000),Calls Tryz.prog 47 #[v] w λ e w'=>e = .returned (.int .i64 (f.depth:Int))/\Below w.heap.size w w':=by
 refine Fm.induct (P := λ f=>∀{D:Dom} (v:Value) (w:World) (h:bI w D v f) (hd:f.depth<=1000000),Calls Tryz.prog 47 #[v] w λ e w'=>e = .returned (.int .i64 (f.depth:Int))/\Below w.heap.size w w') ?_ f;intro f ih D v w h hd;have HIH:=hid ih;obtain⟨A,c,rfl,ha⟩:=h;have HA:=hid ha.old;have hal:=ha.len.1;clear ih ha
 go_enter Tryz.func47,Tryz.ntmps47
 go_upto_region 1 with(fail)
 refine aC λ W hW=>?_;have hbx:dH W w.heap.size f A c:=by rw[hW];exact dH.new w f A c
 have dW:=hid hbx;have aT:=hid (show Below w.heap.size w W by rw[hW];go_grown);obtain⟨x0,x1,x2,x3,x4,xl⟩:=hbx.cells;clear hW hbx;have HD:=hid hd;have wH:=hid (Fm.jr f);clear hd;go_wp2_with fail
 go_loopw [3,4] (λ s q wr=>∃(i n:Nat),i<=f.args.length/\n=depths (f.args.take i)/\s = .int .i64 (n:Int)/\q = .int .i64 (i:Int)/\Below W.heap.size W wr) (λ _ q _=>f.args.length-(intOf q).toNat)
 case atStart=>exact⟨0,0,Nat.zero_le _,by simp[depths],rfl,rfl,Below.refl _ _⟩
 case round =>
  obtain⟨i,n,hi,hn,rfl,rfl,hb⟩:=hrel;obtain⟨x0,x1,x2,x3,x4,xl⟩:=(dW.out.below hb).cells;have HB:=hid hb;have gB:=hid (aT.out.trans (hb.mono aT.out.size));have HN:=hid hn;clear hb hn
  by_cases hlt:i<f.args.length
  ·have hii:(i:Int)<f.args.length:=by omega
   obtain⟨b,o,A',c',g,heq,HG,hg⟩:=(HA.out.keep (Keeps.of_below gB.out λ _ h=>h)).get hlt;cases heq;obtain⟨gd,gl,g0,g1,g2,g3,g4,ga⟩:=hg;have hsn:=DF f.args hlt;have hgd:=tJ hlt;rw[HG.out]at hsn hgd;have hcall:=HIH.out i hlt (D:=(· < w.heap.size)) (.agg #[.int .i64 g.op,.string g.name,.int .i64 g.val,.int .i64 g.bound,.slice A' g.args.length c']) wr (by rw[HG.out];exact⟨A',c',rfl,ga⟩) (by rw[HG.out];have:=HD.out;omega);rw[HG.out]at hcall;have aX:=hid hcall;have rO:=hid hsn;obtain⟨m,hm⟩:∃m,m=g.depth:=⟨_,rfl⟩;have HM:=hid hm;clear hcall ga hsn hgd hm;go_wp2_with fail
   refine aX.out.mono ?_;rintro e w1 ⟨rfl,hb1⟩;have HB1:=hid (HB.out.trans (hb1.mono HB.out.size));rw[<-HM.out];clear hb1
   by_cases hmn:n<m
   ·have h1:(n:Int)<(m:Int):=by omega
    have h2:¬(m:Int)<(n:Int):=by omega
    go_wp2_with fail
    go_roundw
    case rel=>exact⟨i+1,m,by omega,by rw[rO.out,<-HN.out,<-HM.out];omega,by go_num,by go_num,HB1.out⟩
    case measure=>simp[intOf];omega
   ·have h1:¬(n:Int)<(m:Int):=by omega
    go_wp2_with fail
    go_roundw
    case rel=>exact⟨i+1,n,by omega,by rw[rO.out,<-HN.out,<-HM.out];omega,by go_num,by go_num,HB1.out⟩
    case measure=>simp[intOf];omega
  ·have hie:f.args.take i=f.args:=List.take_of_length_le (by omega)
   have hres:f.depth=n+1:=by have:=HN.out;rw[hie]at this;have:=wH.out;omega
   have gY:=hid hres;have hnd:n<=1000000:=by have:=HD.out;omega
   clear hie hres;go_wp2_with fail
   go_ret
   exact⟨dD (by rw[gY.out];simp;try omega),gB.out⟩
theorem JB (f:Fm):∀{D:Dom} (v:Value) (w:World) (h:bI w D v f),Calls Tryz.prog 93 #[v] w λ e w'=>e = .returned (.bool (jF f))/\Below w.heap.size w w':=by
 refine Fm.induct (P := λ f=>∀{D:Dom} (v:Value) (w:World) (h:bI w D v f),Calls Tryz.prog 93 #[v] w λ e w'=>e = .returned (.bool (jF f))/\Below w.heap.size w w') ?_ f;intro f ih D v w h;have HIH:=hid ih;have wH:=hid (show jF f=(xq f&&pO f.args.length λ i=>jF (f.args.getD i default))from mD xq f);obtain⟨A,c,rfl,ha⟩:=h;have HA:=hid ha.old;have hal:=ha.len.1;clear ih ha
 go_enter Tryz.func93,Tryz.ntmps93
 go_upto_region 1 with(fail)
 refine aC λ W hW=>?_;have hbx:dH W w.heap.size f A c:=by rw[hW];exact dH.new w f A c
 have dW:=hid hbx;have aT:=hid (show Below w.heap.size w W by rw[hW];go_grown);obtain⟨x0,x1,x2,x3,x4,xl⟩:=hbx.cells;clear hW hbx
 by_cases h1:8<=f.op
 ·have d1:decide (8<=f.op)=true:=decide_eq_true h1
  by_cases h2:f.op<=14
  ·have d2:decide (f.op<=14)=true:=decide_eq_true h2
   have HR:=hid (show jF f=false by rw[wH.out];unfold xq Vt;rw[d1,d2];rfl);go_wp2_with fail
   go_ret
   exact⟨aF HR.out.symm,aT.out⟩
  ·have d2:decide (f.op<=14)=false:=decide_eq_false h2
   have HP:=hid (show xq f=true by unfold xq Vt;rw[d1,d2];rfl);go_wp2_with fail
   go_loopw [3] (λ q wr=>∃i:Nat,i<=f.args.length/\q = .int .i64 (i:Int)/\Below W.heap.size W wr/\jc i (λ j=>jF (f.args.getD j default))) (λ q _=>f.args.length-(intOf q).toNat)
   case atStart=>exact⟨0,Nat.zero_le _,rfl,Below.refl _ _,jc.zero _⟩
   case round =>
    obtain⟨i,hi,rfl,hb,hsf⟩:=hrel;obtain⟨x0,x1,x2,x3,x4,xl⟩:=(dW.out.below hb).cells;have HB:=hid hb;have gB:=hid (aT.out.trans (hb.mono aT.out.size));have oI:=hid hsf;clear hb hsf
    by_cases hlt:i<f.args.length
    ·have hii:(i:Int)<f.args.length:=by omega
     obtain⟨b,o,A',c',g,heq,HG,hg⟩:=(HA.out.keep (Keeps.of_below gB.out λ _ h=>h)).get hlt;cases heq;obtain⟨gd,gl,g0,g1,g2,g3,g4,ga⟩:=hg;have hcall:=HIH.out i hlt (D:=(· < w.heap.size)) (.agg #[.int .i64 g.op,.string g.name,.int .i64 g.val,.int .i64 g.bound,.slice A' g.args.length c']) wr (by rw[HG.out];exact⟨A',c',rfl,ga⟩);rw[HG.out]at hcall;cases hq:jF g
     ·rw[hq]at hcall
      have HR:=hid (show jF f=false by rw[wH.out];rw[eX (j:=i) hlt (by rw[HG.out];exact hq),Bool.and_false]);have aX:=hid hcall;clear hcall ga hq;go_wp2_with fail
      refine aX.out.mono ?_;rintro e w1 ⟨rfl,hb1⟩;have HB1:=hid (gB.out.trans (hb1.mono gB.out.size));clear hb1;go_wp2_with fail
      go_ret
      exact⟨aF HR.out.symm,HB1.out⟩
     ·rw[hq]at hcall
      have HQ:=hid (show jF (f.args.getD i default)=true by rw[HG.out];exact hq);have aX:=hid hcall;clear hcall ga hq;go_wp2_with fail
      refine aX.out.mono ?_;rintro e w1 ⟨rfl,hb1⟩;have HB1:=hid (HB.out.trans (hb1.mono HB.out.size));clear hb1;go_wp2_with fail
      go_roundw
      case rel=>exact⟨i+1,by omega,by go_num,HB1.out,oI.out.succ HQ.out⟩
      case measure=>simp[intOf];omega
    ·have hii:¬(i:Int)<f.args.length:=by omega
     have HR:=hid (show jF f=true by rw[wH.out];rw[HP.out,Bool.true_and];exact oI.out.all (by omega));go_wp2_with fail
     go_ret
     exact⟨aF HR.out.symm,gB.out⟩
 ·have d1:decide (8<=f.op)=false:=decide_eq_false h1
  have HP:=hid (show xq f=true by unfold xq Vt;rw[d1];rfl);go_wp2_with fail
  go_loopw [3] (λ q wr=>∃i:Nat,i<=f.args.length/\q = .int .i64 (i:Int)/\Below W.heap.size W wr/\jc i (λ j=>jF (f.args.getD j default))) (λ q _=>f.args.length-(intOf q).toNat)
  case atStart=>exact⟨0,Nat.zero_le _,rfl,Below.refl _ _,jc.zero _⟩
  case round =>
   obtain⟨i,hi,rfl,hb,hsf⟩:=hrel;obtain⟨x0,x1,x2,x3,x4,xl⟩:=(dW.out.below hb).cells;have HB:=hid hb;have gB:=hid (aT.out.trans (hb.mono aT.out.size));have oI:=hid hsf;clear hb hsf
   by_cases hlt:i<f.args.length
   ·have hii:(i:Int)<f.args.length:=by omega
    obtain⟨b,o,A',c',g,heq,HG,hg⟩:=(HA.out.keep (Keeps.of_below gB.out λ _ h=>h)).get hlt;cases heq;obtain⟨gd,gl,g0,g1,g2,g3,g4,ga⟩:=hg;have hcall:=HIH.out i hlt (D:=(· < w.heap.size)) (.agg #[.int .i64 g.op,.string g.name,.int .i64 g.val,.int .i64 g.bound,.slice A' g.args.length c']) wr (by rw[HG.out];exact⟨A',c',rfl,ga⟩);rw[HG.out]at hcall;cases hq:jF g
    ·rw[hq]at hcall
     have HR:=hid (show jF f=false by rw[wH.out];rw[eX (j:=i) hlt (by rw[HG.out];exact hq),Bool.and_false]);have aX:=hid hcall;clear hcall ga hq;go_wp2_with fail
     refine aX.out.mono ?_;rintro e w1 ⟨rfl,hb1⟩;have HB1:=hid (gB.out.trans (hb1.mono gB.out.size));clear hb1;go_wp2_with fail
     go_ret
     exact⟨aF HR.out.symm,HB1.out⟩
    ·rw[hq]at hcall
     have HQ:=hid (show jF (f.args.getD i default)=true by rw[HG.out];exact hq);have aX:=hid hcall;clear hcall ga hq;go_wp2_with fail
     refine aX.out.mono ?_;rintro e w1 ⟨rfl,hb1⟩;have HB1:=hid (HB.out.trans (hb1.mono HB.out.size));clear hb1;go_wp2_with fail
     go_roundw
     case rel=>exact⟨i+1,by omega,by go_num,HB1.out,oI.out.succ HQ.out⟩
     case measure=>simp[intOf];omega
   ·have hii:¬(i:Int)<f.args.length:=by omega
    have HR:=hid (show jF f=true by rw[wH.out];rw[HP.out,Bool.true_and];exact oI.out.all (by omega));go_wp2_with fail
    go_ret
    exact⟨aF HR.out.symm,gB.out⟩
theorem Ll (f:Fm):∀{D:Dom} (v:Value) (w:World) (h:bI w D v f),Calls Tryz.prog 50 #[v] w λ e w'=>e = .returned (.bool (wG f))/\Below w.heap.size w w':=by
 refine Fm.induct (P := λ f=>∀{D:Dom} (v:Value) (w:World) (h:bI w D v f),Calls Tryz.prog 50 #[v] w λ e w'=>e = .returned (.bool (wG f))/\Below w.heap.size w w') ?_ f;intro f ih D v w h;have HIH:=hid ih;have wH:=hid (VW f);obtain⟨A,c,rfl,ha⟩:=h;have HA:=hid ha.old;have hal:=ha.len.1;clear ih ha
 go_enter Tryz.func50,Tryz.ntmps50
 go_upto_region 1 with(fail)
 refine aC λ W hW=>?_;have hbx:dH W w.heap.size f A c:=by rw[hW];exact dH.new w f A c
 have dW:=hid hbx;have aT:=hid (show Below w.heap.size w W by rw[hW];go_grown);obtain⟨x0,x1,x2,x3,x4,xl⟩:=hbx.cells;clear hW hbx;go_wp2_with fail
 go_loopw [3] (λ q wr=>∃i:Nat,i<=f.args.length/\q = .int .i64 (i:Int)/\Below W.heap.size W wr/\jc i (λ j=>wG (f.args.getD j default)&&(!vW f.op || jF (f.args.getD j default)))) (λ q _=>f.args.length-(intOf q).toNat)
 case atStart=>exact⟨0,Nat.zero_le _,rfl,Below.refl _ _,jc.zero _⟩
 case round =>
  obtain⟨i,hi,rfl,hb,hsf⟩:=hrel;obtain⟨x0,x1,x2,x3,x4,xl⟩:=(dW.out.below hb).cells;have HB:=hid hb;have gB:=hid (aT.out.trans (hb.mono aT.out.size));have oI:=hid hsf;clear hb hsf
  by_cases hlt:i<f.args.length
  ·have hii:(i:Int)<f.args.length:=by omega
   obtain⟨b,o,A',c',g,heq,HG,hg⟩:=(HA.out.keep (Keeps.of_below gB.out λ _ h=>h)).get hlt;cases heq;have yM:=hid hg.old;obtain⟨gd,gl,g0,g1,g2,g3,g4,ga⟩:=hg;have hcall:=HIH.out i hlt (D:=(· < w.heap.size)) (.agg #[.int .i64 g.op,.string g.name,.int .i64 g.val,.int .i64 g.bound,.slice A' g.args.length c']) wr (by rw[HG.out];exact⟨A',c',rfl,ga⟩);rw[HG.out]at hcall;cases hq:wG g
   ·rw[hq]at hcall
    have HR:=hid (show wG f=false by rw[wH.out,eX (j:=i) hlt (by rw[HG.out,hq];rfl)]);have aX:=hid hcall;clear hcall ga hq;go_wp2_with fail
    refine aX.out.mono ?_;rintro e w1 ⟨rfl,hb1⟩;have HB1:=hid (gB.out.trans (hb1.mono gB.out.size));clear hb1;go_wp2_with fail
    go_ret
    exact⟨aF HR.out.symm,HB1.out⟩
   ·rw[hq]at hcall
    have aX:=hid hcall;have HQ:=hid hq;have Xh:=hid ga;clear hcall ga hq
    have CLS:=hid (show(decide (15<=f.op)=true/\decide (f.op<=19)=true/\vW f.op=true)\/(decide (15<=f.op)=true/\decide (f.op<=19)=false/\vW f.op=false)\/(decide (15<=f.op)=false/\vW f.op=false)by
     unfold vW;cases decide (15<=f.op) <;> cases decide (f.op<=19) <;> simp)
    rcases CLS.out with⟨d1,d2,hp⟩|⟨d1,d2,hp⟩|⟨d1,hp⟩
    ·cases hq2:jF g
     ·have HR:=hid (show wG f=false by rw[wH.out,eX (j:=i) hlt (by rw[HG.out,HQ.out,hp,hq2];rfl)])
      have HQ2:=hid hq2;clear hq2 hp;go_wp2_with fail
      refine aX.out.mono ?_;rintro e w1 ⟨rfl,hb1⟩;have HB1:=hid (gB.out.trans (hb1.mono gB.out.size));have HC2:=hid (JB g (.agg #[.int .i64 g.op,.string g.name,.int .i64 g.val,.int .i64 g.bound,.slice A' g.args.length c']) w1 ⟨A',c',rfl,Xh.out.any hb1⟩);clear x0 x1 x2 x3 x4 g0 g1 g2 g3 g4;obtain⟨x0,x1,x2,x3,x4,xl1⟩:=((dW.out.below HB.out).below hb1).cells;have gl1:=Nat.lt_of_lt_of_le gl hb1.size;obtain⟨_,_,g0,g1,g2,g3,g4,_⟩:=yM.out.keep (Keeps.of_below hb1 λ _ h=>h);clear hb1;go_wp2_with fail
      refine HC2.out.mono ?_;rw[HQ2.out];rintro e w2 ⟨rfl,hb2⟩;have HB2:=hid (HB1.out.trans (hb2.mono HB1.out.size));clear hb2;go_wp2_with fail
      go_ret
      exact⟨aF HR.out.symm,HB2.out⟩
     ·have HQ3:=hid (show(wG (f.args.getD i default)&&(!vW f.op || jF (f.args.getD i default)))=true by rw[HG.out,HQ.out,hp,hq2];rfl)
      have HQ2:=hid hq2;clear hq2 hp;go_wp2_with fail
      refine aX.out.mono ?_;rintro e w1 ⟨rfl,hb1⟩;have HB1:=hid (HB.out.trans (hb1.mono HB.out.size));have HC2:=hid (JB g (.agg #[.int .i64 g.op,.string g.name,.int .i64 g.val,.int .i64 g.bound,.slice A' g.args.length c']) w1 ⟨A',c',rfl,Xh.out.any hb1⟩);clear x0 x1 x2 x3 x4 g0 g1 g2 g3 g4;obtain⟨x0,x1,x2,x3,x4,xl1⟩:=((dW.out.below HB.out).below hb1).cells;have gl1:=Nat.lt_of_lt_of_le gl hb1.size;obtain⟨_,_,g0,g1,g2,g3,g4,_⟩:=yM.out.keep (Keeps.of_below hb1 λ _ h=>h);clear hb1;go_wp2_with fail
      refine HC2.out.mono ?_;rw[HQ2.out];rintro e w2 ⟨rfl,hb2⟩;have HB2:=hid (HB1.out.trans (hb2.mono HB1.out.size));clear hb2;go_wp2_with fail
      go_roundw
      case rel=>exact⟨i+1,by omega,by go_num,HB2.out,oI.out.succ HQ3.out⟩
      case measure=>simp[intOf];omega
    ·have HQ3:=hid (show(wG (f.args.getD i default)&&(!vW f.op || jF (f.args.getD i default)))=true by rw[HG.out,HQ.out,hp];rfl)
     clear hp;go_wp2_with fail
     refine aX.out.mono ?_;rintro e w1 ⟨rfl,hb1⟩;have HB1:=hid (HB.out.trans (hb1.mono HB.out.size));clear x0 x1 x2 x3 x4 g0 g1 g2 g3 g4;obtain⟨x0,x1,x2,x3,x4,xl1⟩:=((dW.out.below HB.out).below hb1).cells;have gl1:=Nat.lt_of_lt_of_le gl hb1.size;obtain⟨_,_,g0,g1,g2,g3,g4,_⟩:=yM.out.keep (Keeps.of_below hb1 λ _ h=>h);clear hb1;go_wp2_with fail
     go_roundw
     case rel=>exact⟨i+1,by omega,by go_num,HB1.out,oI.out.succ HQ3.out⟩
     case measure=>simp[intOf];omega
    ·have HQ3:=hid (show(wG (f.args.getD i default)&&(!vW f.op || jF (f.args.getD i default)))=true by rw[HG.out,HQ.out,hp];rfl)
     clear hp;go_wp2_with fail
     refine aX.out.mono ?_;rintro e w1 ⟨rfl,hb1⟩;have HB1:=hid (HB.out.trans (hb1.mono HB.out.size));clear x0 x1 x2 x3 x4 g0 g1 g2 g3 g4;obtain⟨x0,x1,x2,x3,x4,xl1⟩:=((dW.out.below HB.out).below hb1).cells;have gl1:=Nat.lt_of_lt_of_le gl hb1.size;obtain⟨_,_,g0,g1,g2,g3,g4,_⟩:=yM.out.keep (Keeps.of_below hb1 λ _ h=>h);clear hb1;go_wp2_with fail
     go_roundw
     case rel=>exact⟨i+1,by omega,by go_num,HB1.out,oI.out.succ HQ3.out⟩
     case measure=>simp[intOf];omega
  ·have hii:¬(i:Int)<f.args.length:=by omega
   have HR:=hid (show wG f=true by rw[wH.out];exact oI.out.all (by omega));go_wp2_with fail
   go_ret
   exact⟨aF HR.out.symm,gB.out⟩
theorem WG (f:Fm):∀{D:Dom} (v:Value) (w:World) (h:bI w D v f) (hn:gu f=true),Calls Tryz.prog 49 #[v] w λ e w'=>e = .returned (.bool (lG f))/\Below w.heap.size w w':=by
 refine Fm.induct (P := λ f=>∀{D:Dom} (v:Value) (w:World) (h:bI w D v f) (hn:gu f=true),Calls Tryz.prog 49 #[v] w λ e w'=>e = .returned (.bool (lG f))/\Below w.heap.size w w') ?_ f;intro f ih D v w h hn;have HIH:=hid ih;have wH:=hid (show lG f=(vU f&&pO f.args.length λ i=>lG (f.args.getD i default))from mD vU f);obtain⟨A,c,rfl,ha⟩:=h;have HA:=hid ha.old;have hal:=ha.len.1;clear ih ha
 go_enter Tryz.func49,Tryz.ntmps49
 go_upto_region 1 with(fail)
 refine aC λ W hW=>?_;have hbx:dH W w.heap.size f A c:=by rw[hW];exact dH.new w f A c
 have dW:=hid hbx;have aT:=hid (show Below w.heap.size w W by rw[hW];go_grown);obtain⟨x0,x1,x2,x3,x4,xl⟩:=hbx.cells;clear hW hbx;have HN:=hid hn;have h40 := λ h4=>Yx hn h4;clear hn
 by_cases h4:f.op=4
 ·have hlen:=h40 h4
  have hlen':(0:Int)<f.args.length:=by omega
  obtain⟨b,o,A',c',g,rfl,HG,hg⟩:=(HA.out.keep (Keeps.of_below aT.out λ _ h=>h)).get hlen;obtain⟨gd,gl,g0,g1,g2,g3,g4,ga⟩:=hg;simp only[Nat.zero_mul,Nat.add_zero]at g0 g1 g2 g3 g4
  by_cases h3:g.op=3
  ·have HP:=hid (show vU f=true by unfold vU Ba wZ;rw[HG.out,h4,h3];rfl)
   have d1:decide (1<=f.op)=true:=decide_eq_true (by omega);have d2:decide (f.op<=6)=true:=decide_eq_true (by omega);have d4:(f.op==4)=true:=by rw[h4];rfl
   have d3:(g.op != 3)=false:=by rw[h3];rfl
   clear h40 ga h4 h3;go_wp2_with fail
   go_loopw [4] (λ q wr=>∃i:Nat,i<=f.args.length/\q = .int .i64 (i:Int)/\Below W.heap.size W wr/\jc i (λ j=>lG (f.args.getD j default))) (λ q _=>f.args.length-(intOf q).toNat)
   case atStart=>exact⟨0,Nat.zero_le _,rfl,Below.refl _ _,jc.zero _⟩
   case round =>
    obtain⟨i,hi,rfl,hb,hsf⟩:=hrel;obtain⟨x0,x1,x2,x3,x4,xl⟩:=(dW.out.below hb).cells;have HB:=hid hb;have gB:=hid (aT.out.trans (hb.mono aT.out.size));have oI:=hid hsf;clear hb hsf
    by_cases hlt:i<f.args.length
    ·have hii:(i:Int)<f.args.length:=by omega
     obtain⟨b,o,A',c',g,heq,HG,hg⟩:=(HA.out.keep (Keeps.of_below gB.out λ _ h=>h)).get hlt;cases heq;obtain⟨gd,gl,g0,g1,g2,g3,g4,ga⟩:=hg;have hcall:=HIH.out i hlt (D:=(· < w.heap.size)) (.agg #[.int .i64 g.op,.string g.name,.int .i64 g.val,.int .i64 g.bound,.slice A' g.args.length c']) wr (by rw[HG.out];exact⟨A',c',rfl,ga⟩) (Jp HN.out hlt);rw[HG.out]at hcall;cases hq:lG g
     ·rw[hq]at hcall
      have HR:=hid (show lG f=false by rw[wH.out];rw[eX (j:=i) hlt (by rw[HG.out];exact hq),Bool.and_false]);have aX:=hid hcall;clear hcall ga hq;go_wp2_with fail
      refine aX.out.mono ?_;rintro e w1 ⟨rfl,hb1⟩;have HB1:=hid (gB.out.trans (hb1.mono gB.out.size));clear hb1;go_wp2_with fail
      go_ret
      exact⟨aF HR.out.symm,HB1.out⟩
     ·rw[hq]at hcall
      have HQ:=hid (show lG (f.args.getD i default)=true by rw[HG.out];exact hq);have aX:=hid hcall;clear hcall ga hq;go_wp2_with fail
      refine aX.out.mono ?_;rintro e w1 ⟨rfl,hb1⟩;have HB1:=hid (HB.out.trans (hb1.mono HB.out.size));clear hb1;go_wp2_with fail
      go_roundw
      case rel=>exact⟨i+1,by omega,by go_num,HB1.out,oI.out.succ HQ.out⟩
      case measure=>simp[intOf];omega
    ·have hii:¬(i:Int)<f.args.length:=by omega
     have HR:=hid (show lG f=true by rw[wH.out];rw[HP.out,Bool.true_and];exact oI.out.all (by omega));go_wp2_with fail
     go_ret
     exact⟨aF HR.out.symm,gB.out⟩
  ·have HP:=hid (show vU f=false by unfold vU Ba wZ;rw[HG.out,h4,decide_eq_false h3];rfl)
   have HR:=hid (show lG f=false by rw[wH.out,HP.out];rfl);have d1:decide (1<=f.op)=true:=decide_eq_true (by omega);have d2:decide (f.op<=6)=true:=decide_eq_true (by omega);have d4:(f.op==4)=true:=by rw[h4];rfl
   have d3:(g.op != 3)=true:=by simpa using h3
   go_wp2_with fail
   go_ret
   exact⟨aF HR.out.symm,aT.out⟩
 ·have d4:(f.op==4)=false:=ay h4
  have UN:=hid (show Ba f=true by unfold Ba;rw[decide_eq_false h4];rfl);cases hl:wZ f.op
  ·have HR:=hid (show lG f=false by rw[wH.out];unfold vU;rw[hl];rfl)
   have hl':=hl;unfold wZ at hl';simp only[Bool.or_eq_false_iff]at hl';obtain⟨⟨⟨⟨⟨⟨l0,l1⟩,l2⟩,l3⟩,l4⟩,l5⟩,l6⟩:=hl';clear h40 hl
   by_cases h1:1<=f.op
   ·have d1:decide (1<=f.op)=true:=decide_eq_true h1
    rw[d1,Bool.true_and]at l0;go_wp2_with fail
    go_ret
    exact⟨aF HR.out.symm,aT.out⟩
   ·have d1:decide (1<=f.op)=false:=decide_eq_false h1
    clear l0;go_wp2_with fail
    go_ret
    exact⟨aF HR.out.symm,aT.out⟩
  ·have HP:=hid (show vU f=true by unfold vU;rw[hl,UN.out];rfl)
   unfold wZ at hl;simp only[Bool.or_eq_true]at hl;clear h40;have HL:=hid hl;clear hl
   by_cases h6:1<=f.op/\f.op<=6
   case' pos =>
    have d1:decide (1<=f.op)=true:=decide_eq_true h6.1;have d2:decide (f.op<=6)=true:=decide_eq_true h6.2;go_wp2_with fail
   rotate_left
   by_cases h8:f.op=8
   case' pos =>
    have d1:decide (1<=f.op)=true:=decide_eq_true (by omega);have d2:decide (f.op<=6)=false:=decide_eq_false (by omega);have e8:(f.op==8)=true:=beq_iff_eq.2 h8;clear h8;go_wp2_with fail
   rotate_left
   by_cases h9:f.op=9
   case' pos =>
    have d1:decide (1<=f.op)=true:=decide_eq_true (by omega);have d2:decide (f.op<=6)=false:=decide_eq_false (by omega);have e8:(f.op==8)=false:=ay (by omega);have e9:(f.op==9)=true:=beq_iff_eq.2 h9;clear h9;go_wp2_with fail
   rotate_left
   by_cases h10:f.op=10
   case' pos =>
    have d1:decide (1<=f.op)=true:=decide_eq_true (by omega);have d2:decide (f.op<=6)=false:=decide_eq_false (by omega);have e8:(f.op==8)=false:=ay (by omega);have e9:(f.op==9)=false:=ay (by omega);have e10:(f.op==10)=true:=beq_iff_eq.2 h10;clear h10;go_wp2_with fail
   rotate_left
   by_cases h15:f.op=15
   case' pos =>
    have d1:decide (1<=f.op)=true:=decide_eq_true (by omega);have d2:decide (f.op<=6)=false:=decide_eq_false (by omega);have e8:(f.op==8)=false:=ay (by omega);have e9:(f.op==9)=false:=ay (by omega);have e10:(f.op==10)=false:=ay (by omega);have e15:(f.op==15)=true:=beq_iff_eq.2 h15;clear h15;go_wp2_with fail
   rotate_left
   by_cases h16:f.op=16
   case' pos =>
    have d1:decide (1<=f.op)=true:=decide_eq_true (by omega);have d2:decide (f.op<=6)=false:=decide_eq_false (by omega);have e8:(f.op==8)=false:=ay (by omega);have e9:(f.op==9)=false:=ay (by omega);have e10:(f.op==10)=false:=ay (by omega);have e15:(f.op==15)=false:=ay (by omega);have e16:(f.op==16)=true:=beq_iff_eq.2 h16;clear h16;go_wp2_with fail
   rotate_left
   by_cases h17:f.op=17
   case' pos =>
    have d1:decide (1<=f.op)=true:=decide_eq_true (by omega);have d2:decide (f.op<=6)=false:=decide_eq_false (by omega);have e8:(f.op==8)=false:=ay (by omega);have e9:(f.op==9)=false:=ay (by omega);have e10:(f.op==10)=false:=ay (by omega);have e15:(f.op==15)=false:=ay (by omega);have e16:(f.op==16)=false:=ay (by omega);have e17:(f.op==17)=true:=beq_iff_eq.2 h17;clear h17;go_wp2_with fail
   rotate_left
   exfalso
   have:=HL.out;simp only[Bool.and_eq_true,decide_eq_true_eq,beq_iff_eq]at this;omega
   all_goals
    go_loopw [4] (λ q wr=>∃i:Nat,i<=f.args.length/\q = .int .i64 (i:Int)/\Below W.heap.size W wr/\jc i (λ j=>lG (f.args.getD j default))) (λ q _=>f.args.length-(intOf q).toNat)
    case atStart=>exact⟨0,Nat.zero_le _,rfl,Below.refl _ _,jc.zero _⟩
    case round =>
     obtain⟨i,hi,rfl,hb,hsf⟩:=hrel;obtain⟨x0,x1,x2,x3,x4,xl⟩:=(dW.out.below hb).cells;have HB:=hid hb;have gB:=hid (aT.out.trans (hb.mono aT.out.size));have oI:=hid hsf;clear hb hsf
     by_cases hlt:i<f.args.length
     ·have hii:(i:Int)<f.args.length:=by omega
      obtain⟨b,o,A',c',g,heq,HG,hg⟩:=(HA.out.keep (Keeps.of_below gB.out λ _ h=>h)).get hlt;cases heq;obtain⟨gd,gl,g0,g1,g2,g3,g4,ga⟩:=hg;have hcall:=HIH.out i hlt (D:=(· < w.heap.size)) (.agg #[.int .i64 g.op,.string g.name,.int .i64 g.val,.int .i64 g.bound,.slice A' g.args.length c']) wr (by rw[HG.out];exact⟨A',c',rfl,ga⟩) (Jp HN.out hlt);rw[HG.out]at hcall;cases hq:lG g
      ·rw[hq]at hcall
       have HR:=hid (show lG f=false by rw[wH.out];rw[eX (j:=i) hlt (by rw[HG.out];exact hq),Bool.and_false]);have aX:=hid hcall;clear hcall ga hq;go_wp2_with fail
       refine aX.out.mono ?_;rintro e w1 ⟨rfl,hb1⟩;have HB1:=hid (gB.out.trans (hb1.mono gB.out.size));clear hb1;go_wp2_with fail
       go_ret
       exact⟨aF HR.out.symm,HB1.out⟩
      ·rw[hq]at hcall
       have HQ:=hid (show lG (f.args.getD i default)=true by rw[HG.out];exact hq);have aX:=hid hcall;clear hcall ga hq;go_wp2_with fail
       refine aX.out.mono ?_;rintro e w1 ⟨rfl,hb1⟩;have HB1:=hid (HB.out.trans (hb1.mono HB.out.size));clear hb1;go_wp2_with fail
       go_roundw
       case rel=>exact⟨i+1,by omega,by go_num,HB1.out,oI.out.succ HQ.out⟩
       case measure=>simp[intOf];omega
     ·have hii:¬(i:Int)<f.args.length:=by omega
      have HR:=hid (show lG f=true by rw[wH.out];rw[HP.out,Bool.true_and];exact oI.out.all (by omega));go_wp2_with fail
      go_ret
      exact⟨aF HR.out.symm,gB.out⟩
end Go.Proofs.YtdpbgcmfeajigaaGreatDoor
namespace Go.Proofs.YtdpbgcmfeajigaaGreatDoor
open Go.RowKit Go.Shelf
attribute [local go_sem] ak
theorem uy {o a b:Int}{q:Bool}(h:jk o=(a,b,q)):Ending.returned (.tuple #[.int .i64 a,.int .i64 b,.bool q])=Ending.returned (.tuple #[.int .i64 (jk o).1,.int .i64 (jk o).2.1,.bool (jk o).2.2]):=by rw[h]
theorem SK (o:Int)(w:World):Calls Tryz.prog 126 #[.int .i64 o] w λ e w'=>e = .returned (.tuple #[.int .i64 (jk o).1,.int .i64 (jk o).2.1,.bool (jk o).2.2])/\w'=w:=by
 go_enter Tryz.func126,Tryz.ntmps126
 go_wp2
 all_goals first
  | (refine bodyPost_ret (v := .tuple #[.int .i64 0,.int .i64 (0),.bool true]) ?_ rfl ⟨uy ?_,rfl⟩;(focus (simp[results,Tryz.results126,go_sem];done));simp only[beq_iff_eq,beq_eq_false_iff_ne,ne_eq]at *;unfold jk;(repeat' split) <;> first|rfl|(exfalso;omega))
  | (refine bodyPost_ret (v := .tuple #[.int .i64 1,.int .i64 (1),.bool true]) ?_ rfl ⟨uy ?_,rfl⟩;(focus (simp[results,Tryz.results126,go_sem];done));simp only[beq_iff_eq,beq_eq_false_iff_ne,ne_eq]at *;unfold jk;(repeat' split) <;> first|rfl|(exfalso;omega))
  | (refine bodyPost_ret (v := .tuple #[.int .i64 2,.int .i64 (2),.bool true]) ?_ rfl ⟨uy ?_,rfl⟩;(focus (simp[results,Tryz.results126,go_sem];done));simp only[beq_iff_eq,beq_eq_false_iff_ne,ne_eq]at *;unfold jk;(repeat' split) <;> first|rfl|(exfalso;omega))
  | (refine bodyPost_ret (v := .tuple #[.int .i64 2,.int .i64 (-1),.bool true]) ?_ rfl ⟨uy ?_,rfl⟩;(focus (simp[results,Tryz.results126,go_sem];done));simp only[beq_iff_eq,beq_eq_false_iff_ne,ne_eq]at *;unfold jk;(repeat' split) <;> first|rfl|(exfalso;omega))
  | (refine bodyPost_ret (v := .tuple #[.int .i64 0,.int .i64 (0),.bool false]) ?_ rfl ⟨uy ?_,rfl⟩;(focus (simp[results,Tryz.results126,go_sem];done));simp only[beq_iff_eq,beq_eq_false_iff_ne,ne_eq]at *;unfold jk;(repeat' split) <;> first|rfl|(exfalso;omega))
theorem WL (w:World):Calls Tryz.prog 154 #[] w λ e w'=>∃b,e = .returned (.slice (some ⟨b,0,none⟩) 10 10)/\b<w'.heap.size/\(∀k,k<10->w'.cell? ⟨b,k,none⟩=some (.string (keysL.getD k ByteArray.empty)))/\Below w.heap.size w w':=by
 go_enter Tryz.func154,Tryz.ntmps154
 go_wp2_with fail
 refine aK λ W hW=>?_;have hb:Below w.heap.size w W:=by rw[hW];go_grown
 have hc:W.heap[w.heap.size]?=some (.cells #[.string ⟨#[105,110,112,117,116]⟩,.string ⟨#[111,117,116,112,117,116]⟩,.string ⟨#[112,97,114,116]⟩,.string ⟨#[97,115,115,117,109,101]⟩,.string ⟨#[103,117,97,114,97,110,116,101,101]⟩,.string ⟨#[116,114,117,101]⟩,.string ⟨#[102,97,108,115,101]⟩,.string ⟨#[97,100,100]⟩,.string ⟨#[100,114,111,112]⟩,.string ⟨#[114,101,112,108,97,99,101]⟩] 9 (0,0)):=by rw[hW];exact heap_alloc_new w _
 clear hW;go_ret
 refine⟨w.heap.size,rfl,lt_of_block hc,λ k hk=>?_,hb⟩
 match k,hk with
 | 0,_|1,_|2,_|3,_|4,_|5,_|6,_|7,_|8,_|9,_=>exact aj hc rfl
theorem jf {s:ByteArray}{i:Nat}(hi:i<s.size)(h:dZ s i=false):nameB s=false:=by
 unfold nameB;rw[eX hi h];simp
theorem oz {s:ByteArray}:dZ s 0=jK (tN s 0):=by unfold dZ;simp
theorem Ot {s:ByteArray}{i:Nat}(h1:97<=tN s i)(h2:tN s i<=122):dZ s i=true:=by
 unfold dZ jK;rw[decide_eq_true h1,decide_eq_true h2];rfl
theorem WM (s:ByteArray)(w:World)(h0w:0<w.heap.size):Calls Tryz.prog 127 #[.string s] w λ e w'=>e = .returned (.bool (nameB s))/\Below w.heap.size w w':=by
 by_cases hs:s.size<1
 ·have HR:=hid (zD hs)
  have hsi:(s.size:Int)<1:=by omega
  have hd:decide ((s.size:Int)<1)=true:=decide_eq_true hsi;clear hs
  go_enter Tryz.func127,Tryz.ntmps127
  go_wp2_with fail
  go_ret
  rw[HR.out];exact⟨rfl,by go_grown⟩
 by_cases hl:12<s.size
 ·have HR:=hid (CP hl)
  have hsi:¬(s.size:Int)<1:=by omega
  have uj:12<(s.size:Int):=by omega
  have hd:decide ((s.size:Int)<1)=false:=decide_eq_false hsi;have hd2:decide (12<(s.size:Int))=true:=decide_eq_true uj;clear hs hl
  go_enter Tryz.func127,Tryz.ntmps127
  go_wp2_with fail
  go_ret
  rw[HR.out];exact⟨rfl,by go_grown⟩
 have hsi:¬(s.size:Int)<1:=by omega
 have uj:¬12<(s.size:Int):=by omega
 have hd:decide ((s.size:Int)<1)=false:=decide_eq_false hsi;have hd2:decide (12<(s.size:Int))=false:=decide_eq_false uj;have hlt0:0<s.size:=by omega
 have hii0:(0:Int)<s.size:=by omega
 have HS:=hid hs;have HL:=hid hl;have HX0:=hid (show tN s 0=((s[0]'hlt0).toNat:Int)by unfold tN;simp[hlt0]);clear hs hl
 by_cases a0:((s[0]'hlt0).toNat:Int)<97
 ·have e0:decide (((s[0]'hlt0).toNat:Int)<97)=true:=decide_eq_true a0
  have HR:=hid (jf hlt0 (by rw[oz,HX0.out];unfold jK;rw[decide_eq_false (show¬(97:Int)<=((s[0]'hlt0).toNat:Int)by omega)];rfl))
  go_enter Tryz.func127,Tryz.ntmps127
  go_wp2_with fail
  go_ret
  rw[HR.out];exact⟨rfl,by go_grown⟩
 have e0:decide (((s[0]'hlt0).toNat:Int)<97)=false:=decide_eq_false a0
 by_cases a1:122<((s[0]'hlt0).toNat:Int)
 ·have e1:decide (122<((s[0]'hlt0).toNat:Int))=true:=decide_eq_true a1
  have HR:=hid (jf hlt0 (by rw[oz,HX0.out];unfold jK;rw[decide_eq_false (show¬((s[0]'hlt0).toNat:Int)<=(122:Int)by omega)];simp))
  go_enter Tryz.func127,Tryz.ntmps127
  go_wp2_with fail
  go_ret
  rw[HR.out];exact⟨rfl,by go_grown⟩
 have e1:decide (122<((s[0]'hlt0).toNat:Int))=false:=decide_eq_false a1;have qfn:=hid (And.intro (show 97<=((s[0]'hlt0).toNat:Int)by omega) (show((s[0]'hlt0).toNat:Int)<=122 by omega))
 go_enter Tryz.func127,Tryz.ntmps127
 go_upto_region 3 with(fail)
 clear a0 a1 e0 e1;go_wp2_with fail
 go_loopw [3] (λ q wr=>∃i:Nat,i<=s.size/\q = .int .i64 (i:Int)/\aU w wr/\jc i (dZ s)) (λ q _=>s.size-(intOf q).toNat)
 case atStart=>exact⟨0,Nat.zero_le _,rfl,aU.refl _,jc.zero _⟩
 case round =>
  obtain⟨i,hi,rfl,hdr,hsf⟩:=hrel;have HDR:=hid hdr;have oI:=hid hsf;clear hsf hdr
  by_cases hlt:i<s.size
  ·have hii:(i:Int)<s.size:=by omega
   have HX:=hid (show tN s i=((s[i]'hlt).toNat:Int)by unfold tN;simp[hlt])
   by_cases hz:i=0
   ·subst hz
    have a1:97<=((s[0]'hlt).toNat:Int):=qfn.out.1;have a2:((s[0]'hlt).toNat:Int)<=122:=qfn.out.2;have d1:=decide_eq_true a1;have d2:=decide_eq_true a2;have lM:=hid (Ot (s:=s) (i:=0) (by rw[HX.out];exact a1) (by rw[HX.out];exact a2));go_wp2_with fail
    go_roundw
    case rel=>exact⟨0+1,by omega,by go_num,HDR.out,oI.out.succ lM.out⟩
    case measure=>simp[intOf];omega
   have h0:0<i:=by omega
   have HH0:=hid h0;clear hz h0
   by_cases a1:97<=((s[i]'hlt).toNat:Int)
   ·have d1:decide (97<=((s[i]'hlt).toNat:Int))=true:=decide_eq_true a1
    by_cases a2:((s[i]'hlt).toNat:Int)<=122
    ·have d2:decide (((s[i]'hlt).toNat:Int)<=122)=true:=decide_eq_true a2
     have lM:=hid (show dZ s i=true by unfold dZ jK mY;rw[HX.out];have:=HH0.out;simp_all);go_wp2_with fail
     go_roundw
     case rel=>exact⟨i+1,by omega,by go_num,HDR.out,oI.out.succ lM.out⟩
     case measure=>simp[intOf];omega
    ·have d2:decide (((s[i]'hlt).toNat:Int)<=122)=false:=decide_eq_false a2
     by_cases b1:48<=((s[i]'hlt).toNat:Int)
     ·have g1:decide (48<=((s[i]'hlt).toNat:Int))=true:=decide_eq_true b1
      by_cases b2:((s[i]'hlt).toNat:Int)<=57
      ·have g2:decide (((s[i]'hlt).toNat:Int)<=57)=true:=decide_eq_true b2
       have lM:=hid (show dZ s i=true by unfold dZ jK mY;rw[HX.out];have:=HH0.out;simp_all);go_wp2_with fail
       go_roundw
       case rel=>exact⟨i+1,by omega,by go_num,HDR.out,oI.out.succ lM.out⟩
       case measure=>simp[intOf];omega
      ·have g2:decide (((s[i]'hlt).toNat:Int)<=57)=false:=decide_eq_false b2
       by_cases b3:((s[i]'hlt).toNat:Int)=95
       ·have g3:(((s[i]'hlt).toNat:Int)==95)=true:=beq_iff_eq.2 b3
        have lM:=hid (show dZ s i=true by unfold dZ jK mY;rw[HX.out];have:=HH0.out;simp_all);go_wp2_with fail
        go_roundw
        case rel=>exact⟨i+1,by omega,by go_num,HDR.out,oI.out.succ lM.out⟩
        case measure=>simp[intOf];omega
       ·have g3:(((s[i]'hlt).toNat:Int)==95)=false:=ay b3
        have HR:=hid (jf hlt (by unfold dZ jK mY;rw[HX.out];simp only[Bool.or_eq_false_iff,Bool.and_eq_false_iff,decide_eq_false_iff_not,beq_eq_false_iff_ne];omega));go_wp2_with fail
        go_ret
        rw[HR.out];exact⟨rfl,HDR.out.below _⟩
     ·have g1:decide (48<=((s[i]'hlt).toNat:Int))=false:=decide_eq_false b1
      by_cases b3:((s[i]'hlt).toNat:Int)=95
      ·have g3:(((s[i]'hlt).toNat:Int)==95)=true:=beq_iff_eq.2 b3
       have lM:=hid (show dZ s i=true by unfold dZ jK mY;rw[HX.out];have:=HH0.out;simp_all);go_wp2_with fail
       go_roundw
       case rel=>exact⟨i+1,by omega,by go_num,HDR.out,oI.out.succ lM.out⟩
       case measure=>simp[intOf];omega
      ·have g3:(((s[i]'hlt).toNat:Int)==95)=false:=ay b3
       have HR:=hid (jf hlt (by unfold dZ jK mY;rw[HX.out];simp only[Bool.or_eq_false_iff,Bool.and_eq_false_iff,decide_eq_false_iff_not,beq_eq_false_iff_ne];omega));go_wp2_with fail
       go_ret
       rw[HR.out];exact⟨rfl,HDR.out.below _⟩
   ·have d1:decide (97<=((s[i]'hlt).toNat:Int))=false:=decide_eq_false a1
    by_cases b1:48<=((s[i]'hlt).toNat:Int)
    ·have g1:decide (48<=((s[i]'hlt).toNat:Int))=true:=decide_eq_true b1
     by_cases b2:((s[i]'hlt).toNat:Int)<=57
     ·have g2:decide (((s[i]'hlt).toNat:Int)<=57)=true:=decide_eq_true b2
      have lM:=hid (show dZ s i=true by unfold dZ jK mY;rw[HX.out];have:=HH0.out;simp_all);go_wp2_with fail
      go_roundw
      case rel=>exact⟨i+1,by omega,by go_num,HDR.out,oI.out.succ lM.out⟩
      case measure=>simp[intOf];omega
     ·have g2:decide (((s[i]'hlt).toNat:Int)<=57)=false:=decide_eq_false b2
      by_cases b3:((s[i]'hlt).toNat:Int)=95
      ·have g3:(((s[i]'hlt).toNat:Int)==95)=true:=beq_iff_eq.2 b3
       have lM:=hid (show dZ s i=true by unfold dZ jK mY;rw[HX.out];have:=HH0.out;simp_all);go_wp2_with fail
       go_roundw
       case rel=>exact⟨i+1,by omega,by go_num,HDR.out,oI.out.succ lM.out⟩
       case measure=>simp[intOf];omega
      ·have g3:(((s[i]'hlt).toNat:Int)==95)=false:=ay b3
       have HR:=hid (jf hlt (by unfold dZ jK mY;rw[HX.out];simp only[Bool.or_eq_false_iff,Bool.and_eq_false_iff,decide_eq_false_iff_not,beq_eq_false_iff_ne];omega));go_wp2_with fail
       go_ret
       rw[HR.out];exact⟨rfl,HDR.out.below _⟩
    ·have g1:decide (48<=((s[i]'hlt).toNat:Int))=false:=decide_eq_false b1
     by_cases b3:((s[i]'hlt).toNat:Int)=95
     ·have g3:(((s[i]'hlt).toNat:Int)==95)=true:=beq_iff_eq.2 b3
      have lM:=hid (show dZ s i=true by unfold dZ jK mY;rw[HX.out];have:=HH0.out;simp_all);go_wp2_with fail
      go_roundw
      case rel=>exact⟨i+1,by omega,by go_num,HDR.out,oI.out.succ lM.out⟩
      case measure=>simp[intOf];omega
     ·have g3:(((s[i]'hlt).toNat:Int)==95)=false:=ay b3
      have HR:=hid (jf hlt (by unfold dZ jK mY;rw[HX.out];simp only[Bool.or_eq_false_iff,Bool.and_eq_false_iff,decide_eq_false_iff_not,beq_eq_false_iff_ne];omega));go_wp2_with fail
      go_ret
      rw[HR.out];exact⟨rfl,HDR.out.below _⟩
  ·have hii:¬(i:Int)<s.size:=by omega
   have iY:=hid (show pO s.size (dZ s)=true from oI.out.all (by omega));go_upto_region 9 with(first|(go_at_call 154;(with_reducible refine(WL _).mono ?_);rintro e W ⟨kb,rfl,hkb,hkc,hb⟩))
   have aT:=hid ((HDR.out.below w.heap.size).trans (hb.mono (HDR.out.below w.heap.size).size));have HKC:=hid hkc;have HKB:=hid hkb;clear hb hkc hkb;go_wp2_with fail
   go_loopw [5] (λ q wr=>∃k:Nat,k<=10/\q = .int .i64 (k:Int)/\aU W wr/\∀j,j<k->((keysL.getD j ByteArray.empty).toList==s.toList)=false) (λ q _=>10-(intOf q).toNat)
   case atStart=>exact⟨0,Nat.zero_le _,rfl,aU.refl _,λ j h=>absurd h (Nat.not_lt_zero _)⟩
   case round =>
    obtain⟨k,hk,rfl,qgm,hall⟩:=hrel;have qcY:=hid qgm;have HK:=hid hall;clear hall qgm;have HB2:=hid (aT.out.trans ((qcY.out.below W.heap.size).mono aT.out.size))
    by_cases hkl:k<10
    ·have hki:(k:Int)<10:=by omega
     obtain⟨ky,hky⟩:∃ky,keysL.getD k ByteArray.empty=ky:=⟨_,rfl⟩;have hcell:=((qcY.out.below W.heap.size).cell (p:=⟨kb,k,none⟩) HKB.out).trans (HKC.out k hkl);rw[hky]at hcell;have EO:=hid hky;clear hky
     by_cases he:(ky.toList==s.toList)=true
     ·have HR:=hid (pq (s:=s) hkl (by rw[EO.out];exact he))
      go_wp2_with fail
      go_ret
      rw[HR.out];exact⟨rfl,HB2.out⟩
     ·have hef:(ky.toList==s.toList)=false:=by simpa using he
      go_wp2_with fail
      go_roundw
      case rel =>
       refine⟨k+1,by omega,by go_num,qcY.out,λ j hj=>?_⟩
       by_cases e:j=k
       ·rw[e,EO.out];exact hef
       ·exact HK.out j (by omega)
      case measure=>simp[intOf];omega
    ·have hki:¬(k:Int)<10:=by omega
     have HR:=hid (kU (s:=s) (by have:=HS.out;omega) (by have:=HL.out;omega) (λ j hj=>HK.out j (by omega)));go_wp2_with fail
     go_ret
     rw[HR.out,iY.out];exact⟨rfl,HB2.out⟩
def Fg (o:Int):Bool:=o==13 || o==14
def uq (o:Int):Bool:=o==15 || o==16 || o==17
def CU (f:Fm):Bool:=(jk f.op).2.2&&decide ((jk f.op).1<=(f.args.length:Int))&&(decide ((jk f.op).2.1<0) || decide ((f.args.length:Int)<=(jk f.op).2.1))
def VL (f:Fm):Bool:=nameB f.name&&decide (0<=f.val)&&decide (f.val<=3)&&f.bound==0
def nR (f:Fm):Bool:=f.name.toList.isEmpty&&decide (0<=f.val)&&decide (f.val<=1)&&(uq f.op || f.val==0)&&decide (0<=f.bound)&&decide (f.bound<=9)&&(Fg f.op || f.bound==0)
theorem Ol {f:Fm}(hl:f.args.length<=manyN):bW f=(CU f&&if f.op=3 then VL f else nR f):=by
 unfold manyN at hl
 by_cases h:isOp f.op=true
 ·have hc:=qU h
  rw[Bool.eq_iff_iff]
  constructor
  ·intro hs
   obtain⟨s1,s2,s3,s4,s5,s6,s7,s8⟩:=jo hs
   rcases hc with e|e|e|e|e|e|e|e|e|e|e|e|e|e|e|e|e|e|e
   all_goals
    rw[e]at s2 s3 s5 s7 s8⊢;simp[aJ,isOp,jZ,fP,manyN,sO]at s2 s3 s5 s7 s8;simp[CU,e,jk,VL,nR,uq,Fg,s8]
    try(repeat' (refine And.intro ?_ ?_))
   all_goals first|omega|(exact List.eq_nil_of_length_eq_zero (by omega))|assumption
  ·intro hs
   rcases hc with e|e|e|e|e|e|e|e|e|e|e|e|e|e|e|e|e|e|e
   all_goals
    rw[e]at hs;simp[CU,e,jk,VL,nR,uq,Fg]at hs;refine Lu h ?_ ?_ ?_ ?_ ?_ ?_ ?_
   all_goals (try rw[e])
   all_goals (try simp[aJ,isOp,jZ,fP,manyN,sO])
   all_goals first|omega|(simp_all;done)|(simp_all;omega)
 ·have:bW f=false:=jg (.inl (by simpa using h))
  rw[this];unfold CU;rw[QU h];rfl
theorem WO {D:Dom}(f:Fm)(v:Value)(w:World)(h:bI w D v f)(hl:f.args.length<=manyN):Calls Tryz.prog 92 #[v] w λ e w'=>e = .returned (.bool (bW f))/\Below w.heap.size w w':=by
 obtain⟨A,c,rfl,ha⟩:=h;have HA:=hid ha.old;have hal:=ha.len.1;have xK:=hid (Ol hl);clear ha hl
 go_enter Tryz.func92,Tryz.ntmps92
 go_upto_region 1 with(fail)
 refine aC λ W hW=>?_;have hbx:dH W w.heap.size f A c:=by rw[hW];exact dH.new w f A c
 have dW:=hid hbx;have aT:=hid (show Below w.heap.size w W by rw[hW];go_grown);obtain⟨x0,x1,x2,x3,x4,xl⟩:=hbx.cells;clear hW hbx;obtain⟨⟨ka,kb,kq⟩,hk⟩:∃k,jk f.op=k:=⟨_,rfl⟩;have Qq:=hid (SK f.op W);rw[hk]at Qq;have UO:=hid (show CU f=(kq&&decide (ka<=(f.args.length:Int))&&(decide (kb<0) || decide ((f.args.length:Int)<=kb)))by unfold CU;rw[hk]);clear hk;go_upto_region 2 with(first|(go_at_call 126;(with_reducible refine Qq.out.mono ?_);rintro e W1 ⟨rfl,hw⟩))
 obtain rfl:W=W1:=hw.symm;clear hw
 rename_i K hK
 refine kF K (List.range' 15 20) (λ us W'=>us 34 = .bool (!CU f)/\W'=W) ?_ ?_
 rotate_left
 ·intro gK
  have kH:=hid gK;clear gK hK;cases kq
  ·have HR:=hid (show CU f=false by rw[UO.out];rfl)
   go_wp2_with fail
   refine aO kH.out ⟨by rw[HR.out];rfl,rfl⟩ ?_
   kernel_rfl
  by_cases h1:(f.args.length:Int)<ka
  ·have d1:decide ((f.args.length:Int)<ka)=true:=decide_eq_true h1
   have HR:=hid (show CU f=false by rw[UO.out,decide_eq_false (show¬ka<=(f.args.length:Int)by omega)];rfl);go_wp2_with fail
   refine aO kH.out ⟨by rw[HR.out];rfl,rfl⟩ ?_
   kernel_rfl
  have d1:decide ((f.args.length:Int)<ka)=false:=decide_eq_false h1
  by_cases h2:0<=kb
  ·have d2:decide (0<=kb)=true:=decide_eq_true h2
   by_cases h3:kb<(f.args.length:Int)
   ·have d3:decide (kb<(f.args.length:Int))=true:=decide_eq_true h3
    have HR:=hid (show CU f=false by rw[UO.out,decide_eq_false (show¬kb<0 by omega),decide_eq_false (show¬(f.args.length:Int)<=kb by omega)];simp);go_wp2_with fail
    refine aO kH.out ⟨by rw[HR.out];rfl,rfl⟩ ?_
    kernel_rfl
   ·have d3:decide (kb<(f.args.length:Int))=false:=decide_eq_false h3
    have HR:=hid (show CU f=true by rw[UO.out,decide_eq_true (show ka<=(f.args.length:Int)by omega),decide_eq_true (show(f.args.length:Int)<=kb by omega)];simp);go_wp2_with fail
    refine aO kH.out ⟨by rw[HR.out];rfl,rfl⟩ ?_
    kernel_rfl
  ·have d2:decide (0<=kb)=false:=decide_eq_false h2
   have HR:=hid (show CU f=true by rw[UO.out,decide_eq_true (show ka<=(f.args.length:Int)by omega),decide_eq_true (show kb<0 by omega)];simp);go_wp2_with fail
   refine aO kH.out ⟨by rw[HR.out];rfl,rfl⟩ ?_
   kernel_rfl
 rintro us W1 ⟨hu,hw⟩;obtain rfl:W=W1:=hw.symm;apply hK;simp only[jL,List.range',List.range'_succ,Act.put,List.setIfInBounds_toArray,List.set_cons_zero,List.set_cons_succ,Nat.reduceAdd];rw[hu];clear hK hu hw UO Qq;cases hn:CU f
 ·have HR:=hid (show bW f=false by rw[xK.out,hn];rfl)
  clear hn;go_wp2_with fail
  go_ret
  rw[HR.out];exact⟨rfl,aT.out⟩
 rw[hn]at xK;clear hn
 by_cases h3:f.op=3
 ·have d3:(f.op==3)=true:=beq_iff_eq.2 h3
  rw[if_pos h3,Bool.true_and]at xK;clear h3;have h0:=xl;go_upto_region 5 with(fail)
  have HNM:=hid (WM f.name W (by omega));cases hnm:nameB f.name
  ·have UN:=hid hnm
   have HR:=hid (show VL f=false by unfold VL;simp[UN.out]);go_wp2_with (first|(go_at_call 127;(with_reducible refine HNM.out.mono ?_);rw[UN.out];rintro e W2 ⟨rfl,hb2⟩;obtain⟨x0,x1,x2,x3,x4,xl2⟩:=(dW.out.below hb2).cells))
   go_ret
   rw[xK.out,HR.out];exact⟨rfl,aT.out.trans (hb2.mono aT.out.size)⟩
  have UN:=hid hnm;clear hnm
  by_cases v0:0<=f.val
  rotate_left
  ·have PG:decide (0<=f.val)=false:=decide_eq_false v0
   have HR:=hid (show VL f=false by unfold VL;simp[UN.out,v0]);go_wp2_with (first|(go_at_call 127;(with_reducible refine HNM.out.mono ?_);rw[UN.out];rintro e W2 ⟨rfl,hb2⟩;obtain⟨x0,x1,x2,x3,x4,xl2⟩:=(dW.out.below hb2).cells))
   go_ret
   rw[xK.out,HR.out];exact⟨rfl,aT.out.trans (hb2.mono aT.out.size)⟩
  have PG:decide (0<=f.val)=true:=decide_eq_true v0
  by_cases v1:f.val<=3
  rotate_left
  ·have QX:decide (f.val<=3)=false:=decide_eq_false v1
   have HR:=hid (show VL f=false by unfold VL;simp[UN.out,v1]);go_wp2_with (first|(go_at_call 127;(with_reducible refine HNM.out.mono ?_);rw[UN.out];rintro e W2 ⟨rfl,hb2⟩;obtain⟨x0,x1,x2,x3,x4,xl2⟩:=(dW.out.below hb2).cells))
   go_ret
   rw[xK.out,HR.out];exact⟨rfl,aT.out.trans (hb2.mono aT.out.size)⟩
  have QX:decide (f.val<=3)=true:=decide_eq_true v1
  by_cases b0:f.bound=0
  rotate_left
  ·have QV:(f.bound==0)=false:=ay b0
   have HR:=hid (show VL f=false by unfold VL;simp[UN.out,b0]);go_wp2_with (first|(go_at_call 127;(with_reducible refine HNM.out.mono ?_);rw[UN.out];rintro e W2 ⟨rfl,hb2⟩;obtain⟨x0,x1,x2,x3,x4,xl2⟩:=(dW.out.below hb2).cells))
   go_ret
   rw[xK.out,HR.out];exact⟨rfl,aT.out.trans (hb2.mono aT.out.size)⟩
  have QV:(f.bound==0)=true:=beq_iff_eq.2 b0;have HR:=hid (show VL f=true by unfold VL;simp[UN.out,v0,v1,b0]);go_wp2_with (first|(go_at_call 127;(with_reducible refine HNM.out.mono ?_);rw[UN.out];rintro e W2 ⟨rfl,hb2⟩;obtain⟨x0,x1,x2,x3,x4,xl2⟩:=(dW.out.below hb2).cells))
  go_ret
  rw[xK.out,HR.out];exact⟨rfl,aT.out.trans (hb2.mono aT.out.size)⟩
 have d3:(f.op==3)=false:=ay h3;rw[if_neg h3,Bool.true_and]at xK;go_upto_region 6 with(fail)
 rename_i K hK
 refine kF K (6 :: List.range' 56 8) (λ us W'=>us 6 = .bool (Fg f.op)/\W'=W) ?_ ?_
 rotate_left
 ·intro gK
  have kH:=hid gK;clear gK hK
  by_cases k13:f.op=13
  ·have e13:(f.op==13)=true:=beq_iff_eq.2 k13
   have HR:=hid (show Fg f.op=true by unfold Fg;rw[e13];simp);go_wp2_with fail
   refine aO kH.out ⟨by rw[HR.out];rfl,rfl⟩ ?_
   kernel_rfl
  have e13:(f.op==13)=false:=ay k13
  by_cases k14:f.op=14
  ·have e14:(f.op==14)=true:=beq_iff_eq.2 k14
   have HR:=hid (show Fg f.op=true by unfold Fg;rw[e13,e14];simp);go_wp2_with fail
   refine aO kH.out ⟨by rw[HR.out];rfl,rfl⟩ ?_
   kernel_rfl
  have e14:(f.op==14)=false:=ay k14;have HR:=hid (show Fg f.op=false by unfold Fg;rw[e13,e14];rfl);go_wp2_with fail
  refine aO kH.out ⟨by rw[HR.out];rfl,rfl⟩ ?_
  kernel_rfl
 rintro us W1 ⟨hu,hw⟩;obtain rfl:W=W1:=hw.symm;apply hK;simp only[jL,List.range',List.range'_succ,Act.put,List.setIfInBounds_toArray,List.set_cons_zero,List.set_cons_succ,Nat.reduceAdd];rw[hu];clear hK hu hw;go_upto_region 7 with(fail)
 rename_i K hK
 refine kF K (7 :: List.range' 64 13) (λ us W'=>us 7 = .bool (uq f.op)/\W'=W) ?_ ?_
 rotate_left
 ·intro gK
  have kH:=hid gK;clear gK hK
  by_cases k15:f.op=15
  ·have e15:(f.op==15)=true:=beq_iff_eq.2 k15
   have HR:=hid (show uq f.op=true by unfold uq;rw[e15];simp);go_wp2_with fail
   refine aO kH.out ⟨by rw[HR.out];rfl,rfl⟩ ?_
   kernel_rfl
  have e15:(f.op==15)=false:=ay k15
  by_cases k16:f.op=16
  ·have e16:(f.op==16)=true:=beq_iff_eq.2 k16
   have HR:=hid (show uq f.op=true by unfold uq;rw[e15,e16];simp);go_wp2_with fail
   refine aO kH.out ⟨by rw[HR.out];rfl,rfl⟩ ?_
   kernel_rfl
  have e16:(f.op==16)=false:=ay k16
  by_cases k17:f.op=17
  ·have e17:(f.op==17)=true:=beq_iff_eq.2 k17
   have HR:=hid (show uq f.op=true by unfold uq;rw[e15,e16,e17];simp);go_wp2_with fail
   refine aO kH.out ⟨by rw[HR.out];rfl,rfl⟩ ?_
   kernel_rfl
  have e17:(f.op==17)=false:=ay k17;have HR:=hid (show uq f.op=false by unfold uq;rw[e15,e16,e17];rfl);go_wp2_with fail
  refine aO kH.out ⟨by rw[HR.out];rfl,rfl⟩ ?_
  kernel_rfl
 rintro us W1 ⟨hu,hw⟩;obtain rfl:W=W1:=hw.symm;apply hK;simp only[jL,List.range',List.range'_succ,Act.put,List.setIfInBounds_toArray,List.set_cons_zero,List.set_cons_succ,Nat.reduceAdd];rw[hu];clear hK hu hw;go_upto_region 8 with(fail)
 obtain⟨lt,hlt⟩:∃q,q=uq f.op:=⟨_,rfl⟩;obtain⟨bd,hbd⟩:∃q,q=Fg f.op:=⟨_,rfl⟩;have rM:=hid (show nR f=(f.name.toList.isEmpty&&decide (0<=f.val)&&decide (f.val<=1)&&(lt || f.val==0)&&decide (0<=f.bound)&&decide (f.bound<=9)&&(bd || f.bound==0))by rw[hlt,hbd];rfl);rw[<-hlt,<-hbd];clear hlt hbd h3 d3;cases hnm:f.name.toList.isEmpty
 ·have HR:=hid (show nR f=false by rw[rM.out];simp[hnm])
  go_wp2_with fail
  go_ret
  rw[xK.out,HR.out];exact⟨rfl,aT.out⟩
 by_cases v0:0<=f.val
 rotate_left
 ·have PG:decide (0<=f.val)=false:=decide_eq_false v0
  have HR:=hid (show nR f=false by rw[rM.out];simp[hnm,PG]);go_wp2_with fail
  go_ret
  rw[xK.out,HR.out];exact⟨rfl,aT.out⟩
 have PG:decide (0<=f.val)=true:=decide_eq_true v0
 by_cases v1:f.val<=1
 rotate_left
 ·have QX:decide (f.val<=1)=false:=decide_eq_false v1
  have HR:=hid (show nR f=false by rw[rM.out];simp[hnm,PG,QX]);go_wp2_with fail
  go_ret
  rw[xK.out,HR.out];exact⟨rfl,aT.out⟩
 have QX:decide (f.val<=1)=true:=decide_eq_true v1;cases lt
 ·by_cases v2:f.val=0
  rotate_left
  ·have dv2:(f.val==0)=false:=ay v2
   have HR:=hid (show nR f=false by rw[rM.out];simp[hnm,PG,QX,dv2]);go_wp2_with fail
   go_ret
   rw[xK.out,HR.out];exact⟨rfl,aT.out⟩
  have dv2:(f.val==0)=true:=beq_iff_eq.2 v2
  by_cases b0:0<=f.bound
  rotate_left
  ·have QV:decide (0<=f.bound)=false:=decide_eq_false b0
   have HR:=hid (show nR f=false by rw[rM.out];simp[hnm,PG,QX,dv2,QV]);go_wp2_with fail
   go_ret
   rw[xK.out,HR.out];exact⟨rfl,aT.out⟩
  have QV:decide (0<=f.bound)=true:=decide_eq_true b0
  by_cases b1:f.bound<=9
  rotate_left
  ·have Ny:decide (f.bound<=9)=false:=decide_eq_false b1
   have HR:=hid (show nR f=false by rw[rM.out];simp[hnm,PG,QX,dv2,QV,Ny]);go_wp2_with fail
   go_ret
   rw[xK.out,HR.out];exact⟨rfl,aT.out⟩
  have Ny:decide (f.bound<=9)=true:=decide_eq_true b1;cases bd
  ·by_cases z:f.bound=0
   rotate_left
   ·have dz:(f.bound==0)=false:=ay z
    have HR:=hid (show nR f=false by rw[rM.out];simp[hnm,PG,QX,dv2,QV,Ny,dz]);go_wp2_with fail
    go_ret
    rw[xK.out,HR.out];exact⟨rfl,aT.out⟩
   have dz:(f.bound==0)=true:=beq_iff_eq.2 z;have HR:=hid (show nR f=true by rw[rM.out];simp[hnm,PG,QX,dv2,QV,Ny,dz]);go_wp2_with fail
   go_ret
   rw[xK.out,HR.out];exact⟨rfl,aT.out⟩
  ·have HR:=hid (show nR f=true by rw[rM.out];simp[hnm,PG,QX,dv2,QV,Ny])
   go_wp2_with fail
   go_ret
   rw[xK.out,HR.out];exact⟨rfl,aT.out⟩
 ·by_cases b0:0<=f.bound
  rotate_left
  ·have QV:decide (0<=f.bound)=false:=decide_eq_false b0
   have HR:=hid (show nR f=false by rw[rM.out];simp[hnm,PG,QX,QV]);go_wp2_with fail
   go_ret
   rw[xK.out,HR.out];exact⟨rfl,aT.out⟩
  have QV:decide (0<=f.bound)=true:=decide_eq_true b0
  by_cases b1:f.bound<=9
  rotate_left
  ·have Ny:decide (f.bound<=9)=false:=decide_eq_false b1
   have HR:=hid (show nR f=false by rw[rM.out];simp[hnm,PG,QX,QV,Ny]);go_wp2_with fail
   go_ret
   rw[xK.out,HR.out];exact⟨rfl,aT.out⟩
  have Ny:decide (f.bound<=9)=true:=decide_eq_true b1;cases bd
  ·by_cases z:f.bound=0
   rotate_left
   ·have dz:(f.bound==0)=false:=ay z
    have HR:=hid (show nR f=false by rw[rM.out];simp[hnm,PG,QX,QV,Ny,dz]);go_wp2_with fail
    go_ret
    rw[xK.out,HR.out];exact⟨rfl,aT.out⟩
   have dz:(f.bound==0)=true:=beq_iff_eq.2 z;have HR:=hid (show nR f=true by rw[rM.out];simp[hnm,PG,QX,QV,Ny,dz]);go_wp2_with fail
   go_ret
   rw[xK.out,HR.out];exact⟨rfl,aT.out⟩
  ·have HR:=hid (show nR f=true by rw[rM.out];simp[hnm,PG,QX,QV,Ny])
   go_wp2_with fail
   go_ret
   rw[xK.out,HR.out];exact⟨rfl,aT.out⟩
end Go.Proofs.YtdpbgcmfeajigaaGreatDoor
