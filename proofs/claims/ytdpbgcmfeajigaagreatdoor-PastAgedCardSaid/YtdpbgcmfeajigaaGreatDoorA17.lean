/-
  Parts of a proof: HO HP HQ HR HT.
-/
import Derived.Test.YtdpbgcmfeajigaaGreatDoorA16
set_option linter.unusedSimpArgs false
set_option linter.unusedVariables false
set_option maxHeartbeats 8000000
set_option maxRecDepth 100000
namespace Go.Proofs.YtdpbgcmfeajigaaGreatDoor
open Go.RowKit Go.Shelf
attribute [local go_sem] ak
theorem BA {gs:List Fm}(h:Dq gs){i j:Nat}(hij:i<=j)(hj:j<gs.length):(gs.getD i default).cmp (gs.getD j default)<=0:=by
 rcases Nat.lt_or_ge i j with hlt|hge
 ·have:=List.pairwise_iff_getElem.1 h i j (by omega) hj hlt
  simpa[List.getD,hj,show i<gs.length by omega]using this
 ·obtain rfl:i=j:=by omega
  rw[tY];exact Int.le_refl _
theorem Nk {D E:Dom}(gs:List Fm)(A:Option Addr)(c:Nat)(g:Fm)(v:Value)(w:World)(h:bZ w D gs A c)(h2:bI w E v g)(hs:∀f,f∈gs->f.size<=1000000)(hlen:gs.length<=1000000)(hcl:∀b,D b->Cl w b)(hsort:Dq gs) :
  Calls Tryz.prog 221 #[.slice A gs.length c,v,.func (.func 16) #[] #[]] w λ e w'=>(∃i:Int,e = .returned (.tuple #[.int .i64 i,.bool (gs.any λ x=>x.cmp g==0)]))/\gV w w':=by
 obtain⟨A2,c2,rfl,ha2⟩:=h2;have HR:=hid (h.mono (E := λ k=>D k/\k<w.heap.size) λ k hk hl=>⟨hk,hl⟩);have HA2:=hid ha2.old;have HS:=hid hs;have Md:=hid hcl;have HSO:=hid hsort;have eg:∀args W,(callFunc 16 args).run Tryz.prog W = .ok (.enter 16 args) W:=enters_of Tryz.func16 (by kernel_rfl) rfl;clear h ha2 hs hcl hsort
 go_enter Tryz.func221,Tryz.ntmps221
 go_upto_region 1 with(fail)
 refine aC λ W hW=>?_;have HB:=hid (show gV w W by rw[hW];exact(gV.refl w).alloc _)
 have HE:=hid (show dH W w.heap.size g A2 c2 by
  show W.heap[w.heap.size]?=_
  rw[hW];exact at_new _ _ _ rfl)
 clear hW;go_wp2_with fail
 go_loopw [9,10] (λ q r wr=>∃i j:Nat,i<=j/\j<=gs.length/\q = .int .i64 (i:Int)/\r = .int .i64 (j:Int)/\gV W wr/\(∀k,k<i->(gs.getD k default).cmp g<0)/\(∀k,j<=k->k<gs.length->0<=(gs.getD k default).cmp g)) (λ q r _=>(intOf r).toNat-(intOf q).toNat)
 case atStart=>exact⟨0,gs.length,Nat.zero_le _,Nat.le_refl _,rfl,rfl,gV.refl _,λ k h=>absurd h (Nat.not_lt_zero _),λ k h1 h2=>absurd h2 (by omega)⟩
 case round =>
  obtain⟨i,j,hij,hjn,rfl,rfl,hb,hlo,hhi⟩:=hrel;have gB:=hid (HB.out.trans hb);have bH:=hid hb;have sW:=hid hlo;have HHI:=hid hhi;have HEr:=hid (HE.out.below hb.below);have X0:=hid (HR.out.keep (Keeps.of_below gB.out.below λ _ h=>h.2));have HAr:=hid (HA2.out.keep (Keeps.of_below gB.out.below λ _ h=>h));clear hb hlo hhi
  by_cases hlt:i<j
  ·have hii:(i:Int)<(j:Int):=by omega
   go_upto_region 5 with(fail)
   obtain⟨m,hm⟩:∃m:Nat,m=(i+j) / 2:=⟨_,rfl⟩;have hmz:((i:Int)+(j:Int)) / 2=(m:Int):=by omega
   have him:i<=m/\m<j:=by omega
   have hml:m<gs.length:=by omega
   obtain⟨b1,o1,A',c',f,rfl,HX,hf⟩:=X0.out.get hml
   have hfm:f∈gs:=by
    have:=HX.out;rw[<-this];exact fV hml
   have aI:Hid (∀W':World,gV wr W'->W'.cell? ⟨b1,o1+m*5,none⟩=some (.int .i64 f.op)/\W'.cell? ⟨b1,o1+m*5+1,none⟩=some (.string f.name)/\W'.cell? ⟨b1,o1+m*5+2,none⟩=some (.int .i64 f.val)/\W'.cell? ⟨b1,o1+m*5+3,none⟩=some (.int .i64 f.bound)/\W'.cell? ⟨b1,o1+m*5+4,none⟩=some (.slice A' f.args.length c')/\W'.cell? ⟨w.heap.size,0,none⟩=some (.int .i64 g.op)/\W'.cell? ⟨w.heap.size,1,none⟩=some (.string g.name)/\W'.cell? ⟨w.heap.size,2,none⟩=some (.int .i64 g.val)/\W'.cell? ⟨w.heap.size,3,none⟩=some (.int .i64 g.bound)/\W'.cell? ⟨w.heap.size,4,none⟩=some (.slice A2 g.args.length c2)):=hid λ W' hb =>
    have hq:=hf.keep (Keeps.of_below hb.below λ k (hk:D k/\k<w.heap.size)=>Nat.lt_of_lt_of_le hk.2 gB.out.below.size);have he:=(HEr.out.below hb.below).cells
    ⟨hq.c0,hq.c1,hq.c2,hq.c3,hq.c4,he.1,he.2.1,he.2.2.1,he.2.2.2.1,he.2.2.2.2.1⟩
   have aX:Hid (∀W':World,gV wr W'->Calls Tryz.prog 16 #[.agg #[.int .i64 f.op,.string f.name,.int .i64 f.val,.int .i64 f.bound,.slice A' f.args.length c'],.agg #[.int .i64 g.op,.string g.name,.int .i64 g.val,.int .i64 g.bound,.slice A2 g.args.length c2]] W' λ e w'=>e = .returned (.int .i64 (f.cmp g))/\gV wr w'):=hid λ W' hb=>by
    refine(oV f g _ _ W' (bI.cells5 (hf.keep (Keeps.of_below hb.below λ k (hk:D k/\k<w.heap.size)=>Nat.lt_of_lt_of_le hk.2 gB.out.below.size)).args) (bI.cells5 (HAr.out.keep (Keeps.of_below hb.below λ k (hk:k<w.heap.size)=>Nat.lt_of_lt_of_le hk gB.out.below.size))) (HS.out f hfm) (.inl λ k hk=>(Md.out k hk.1).of_eq ((gB.out.trans hb).below.block k hk.2))).mono ?_;rintro e w' ⟨rfl,hb'⟩;exact⟨rfl,hb.trans hb'⟩
   have HI0:=hid (gV.refl wr);have HI1:=hid (show gV wr wr.drew from(gV.refl wr).drewN 1);have HI2:=hid (show∀i,gV wr (wr.drewN i)from λ i=>(gV.refl wr).drewN i);obtain⟨p0,p1,p2,p3,p4,r0,r1,r2,r3,r4⟩:=aI.out wr (gV.refl wr);have hbl:=Nat.lt_of_lt_of_le hf.dom.2 gB.out.below.size;have hwl:w.heap.size<wr.heap.size:=(HEr.out.cells).2.2.2.2.2;rw[hmz];have hmi:(m:Int)<(gs.length:Int):=by omega
   clear hmz hm
   go_region_held3 (λ W':World=>W'.cell? ⟨b1,o1+m*5,none⟩=some (.int .i64 f.op)/\W'.cell? ⟨b1,o1+m*5+1,none⟩=some (.string f.name)/\W'.cell? ⟨b1,o1+m*5+2,none⟩=some (.int .i64 f.val)/\W'.cell? ⟨b1,o1+m*5+3,none⟩=some (.int .i64 f.bound)/\W'.cell? ⟨b1,o1+m*5+4,none⟩=some (.slice A' f.args.length c')/\W'.cell? ⟨w.heap.size,0,none⟩=some (.int .i64 g.op)/\W'.cell? ⟨w.heap.size,1,none⟩=some (.string g.name)/\W'.cell? ⟨w.heap.size,2,none⟩=some (.int .i64 g.val)/\W'.cell? ⟨w.heap.size,3,none⟩=some (.int .i64 g.bound)/\W'.cell? ⟨w.heap.size,4,none⟩=some (.slice A2 g.args.length c2))
    (first|(with_reducible exact aI.out _ hI)|(go_keep;done))
    ((go_at_call 16;(with_reducible refine(aX.out _ (by first|exact HI0.out|exact HI1.out|exact HI2.out _)).mono ?_);rintro e W9 ⟨rfl,hI⟩))
   all_goals
    have aT:=hid (bH.out.trans hI);have mZ:=hid HX.out;clear p0 p1 p2 p3 p4 r0 r1 r2 r3 r4 HX
    by_cases hc:f.cmp g<0
    ·have HC:=hid hc
     go_wp2_with fail
     go_roundw
     case rel =>
      refine⟨m+1,j,by omega,hjn,by go_num,rfl,aT.out,λ k hk=>?_,HHI.out⟩;have:=BA HSO.out (show k<=m by omega) hml;rw[mZ.out]at this;have h3:=HC.out;exact(qo (gs.getD k default) f g).lt this (by omega) (.inr h3)
     case measure=>simp[intOf];omega
    ·have HC:=hid hc
     go_wp2_with fail
     go_roundw
     case rel =>
      refine⟨i,m,by omega,by omega,rfl,rfl,aT.out,sW.out,λ k h1 h2=>?_⟩;have:=BA HSO.out h1 h2;rw[mZ.out]at this;have h3:=HC.out;have a1:=kR (gs.getD k default) f;have a2:=kR (gs.getD k default) g;have a3:=kR f g;have a4:=kR f (gs.getD k default);have:=(qo g f (gs.getD k default)).le (by omega) (by omega);omega
     case measure=>simp[intOf];omega
  ·have hii:¬(i:Int)<(j:Int):=by omega
   obtain rfl:i=j:=by omega
   by_cases hin:i<gs.length
   ·have hini:(i:Int)<(gs.length:Int):=by omega
    obtain⟨b1,o1,A',c',f,rfl,HX,hf⟩:=X0.out.get hin
    have hfm:f∈gs:=by
     have:=HX.out;rw[<-this];exact fV hin
    have aI:Hid (∀W':World,gV wr W'->W'.cell? ⟨b1,o1+i*5,none⟩=some (.int .i64 f.op)/\W'.cell? ⟨b1,o1+i*5+1,none⟩=some (.string f.name)/\W'.cell? ⟨b1,o1+i*5+2,none⟩=some (.int .i64 f.val)/\W'.cell? ⟨b1,o1+i*5+3,none⟩=some (.int .i64 f.bound)/\W'.cell? ⟨b1,o1+i*5+4,none⟩=some (.slice A' f.args.length c')/\W'.cell? ⟨w.heap.size,0,none⟩=some (.int .i64 g.op)/\W'.cell? ⟨w.heap.size,1,none⟩=some (.string g.name)/\W'.cell? ⟨w.heap.size,2,none⟩=some (.int .i64 g.val)/\W'.cell? ⟨w.heap.size,3,none⟩=some (.int .i64 g.bound)/\W'.cell? ⟨w.heap.size,4,none⟩=some (.slice A2 g.args.length c2)):=hid λ W' hb =>
     have hq:=hf.keep (Keeps.of_below hb.below λ k (hk:D k/\k<w.heap.size)=>Nat.lt_of_lt_of_le hk.2 gB.out.below.size);have he:=(HEr.out.below hb.below).cells
     ⟨hq.c0,hq.c1,hq.c2,hq.c3,hq.c4,he.1,he.2.1,he.2.2.1,he.2.2.2.1,he.2.2.2.2.1⟩
    have aX:Hid (∀W':World,gV wr W'->Calls Tryz.prog 16 #[.agg #[.int .i64 f.op,.string f.name,.int .i64 f.val,.int .i64 f.bound,.slice A' f.args.length c'],.agg #[.int .i64 g.op,.string g.name,.int .i64 g.val,.int .i64 g.bound,.slice A2 g.args.length c2]] W' λ e w'=>e = .returned (.int .i64 (f.cmp g))/\gV wr w'):=hid λ W' hb=>by
     refine(oV f g _ _ W' (bI.cells5 (hf.keep (Keeps.of_below hb.below λ k (hk:D k/\k<w.heap.size)=>Nat.lt_of_lt_of_le hk.2 gB.out.below.size)).args) (bI.cells5 (HAr.out.keep (Keeps.of_below hb.below λ k (hk:k<w.heap.size)=>Nat.lt_of_lt_of_le hk gB.out.below.size))) (HS.out f hfm) (.inl λ k hk=>(Md.out k hk.1).of_eq ((gB.out.trans hb).below.block k hk.2))).mono ?_;rintro e w' ⟨rfl,hb'⟩;exact⟨rfl,hb.trans hb'⟩
    have HI0:=hid (gV.refl wr);have HI1:=hid (show gV wr wr.drew from(gV.refl wr).drewN 1);have HI2:=hid (show∀i,gV wr (wr.drewN i)from λ i=>(gV.refl wr).drewN i);obtain⟨p0,p1,p2,p3,p4,r0,r1,r2,r3,r4⟩:=aI.out wr (gV.refl wr);have hbl:=Nat.lt_of_lt_of_le hf.dom.2 gB.out.below.size;have hwl:w.heap.size<wr.heap.size:=(HEr.out.cells).2.2.2.2.2;go_upto_region 8 with(fail)
    go_region_held3 (λ W':World=>W'.cell? ⟨b1,o1+i*5,none⟩=some (.int .i64 f.op)/\W'.cell? ⟨b1,o1+i*5+1,none⟩=some (.string f.name)/\W'.cell? ⟨b1,o1+i*5+2,none⟩=some (.int .i64 f.val)/\W'.cell? ⟨b1,o1+i*5+3,none⟩=some (.int .i64 f.bound)/\W'.cell? ⟨b1,o1+i*5+4,none⟩=some (.slice A' f.args.length c')/\W'.cell? ⟨w.heap.size,0,none⟩=some (.int .i64 g.op)/\W'.cell? ⟨w.heap.size,1,none⟩=some (.string g.name)/\W'.cell? ⟨w.heap.size,2,none⟩=some (.int .i64 g.val)/\W'.cell? ⟨w.heap.size,3,none⟩=some (.int .i64 g.bound)/\W'.cell? ⟨w.heap.size,4,none⟩=some (.slice A2 g.args.length c2))
     (first|(with_reducible exact aI.out _ hI)|(go_keep;done))
     ((go_at_call 16;(with_reducible refine(aX.out _ (by first|exact HI0.out|exact HI1.out|exact HI2.out _)).mono ?_);rintro e W9 ⟨rfl,hI⟩))
    all_goals
     have aT:=hid (gB.out.trans hI)
     have qcP:=hid (show(gs.any λ x=>x.cmp g==0)=(f.cmp g==0)by
      cases hq:f.cmp g==0
      ·rw[List.any_eq_false]
       intro x hx hx0;have hx1:x.cmp g=0:=by simpa using hx0
       obtain⟨k,hk,rfl⟩:=List.getElem_of_mem hx;have e:gs.getD k default=gs[k]:=by simp[List.getD,hk]
       have hf0:f.cmp g≠0:=by simpa using hq
       rcases Nat.lt_trichotomy k i with h|h|h
       ·have:=sW.out k h
        rw[e]at this;omega
       ·subst h
        have:=HX.out;rw[e]at this;rw[this]at hx1;exact hf0 hx1
       ·have h1:=BA HSO.out (Nat.le_of_lt h) hk
        rw[HX.out,e]at h1;have h2:=HHI.out i (Nat.le_refl _) hin;rw[HX.out]at h2;have h3:=(qo f gs[k] g).le h1 (by omega);omega
      ·rw[List.any_eq_true]
       exact⟨f,hfm,hq⟩)
     clear p0 p1 p2 p3 p4 r0 r1 r2 r3 r4 HX;go_wp2_with fail
     refine bodyPost_ret (v := .tuple #[.int .i64 (i:Int),.bool (f.cmp g==0)]) (by simp[results,Tryz.results221,go_sem]) rfl ⟨⟨(i:Int),by rw[qcP.out]⟩,aT.out⟩
   ·have hini:¬(i:Int)<(gs.length:Int):=by omega
    have qcP:=hid (show(gs.any λ x=>x.cmp g==0)=false by
     rw[List.any_eq_false];intro x hx hx0;have hx1:x.cmp g=0:=by simpa using hx0
     obtain⟨k,hk,rfl⟩:=List.getElem_of_mem hx;have e:gs.getD k default=gs[k]:=by simp[List.getD,hk]
     have:=sW.out k (by omega)
     rw[e]at this;omega)
    go_wp2_with fail
    go_quiet (fail)
    obtain⟨V1,hV1,qbs⟩:∃V1,V1=wr.drewN nq/\aU wr V1:=⟨_,rfl,nq,rfl⟩;rw[<-hV1];clear hV1;go_wp2_with fail
    refine bodyPost_ret (v := .tuple #[.int .i64 (i:Int),.bool false]) (by simp[results,Tryz.results221,go_sem]) rfl ⟨⟨(i:Int),by rw[qcP.out]⟩,gB.out.trans (gV.nJ qbs)⟩
end Go.Proofs.YtdpbgcmfeajigaaGreatDoor
namespace Go.Proofs.YtdpbgcmfeajigaaGreatDoor
open Go.RowKit Go.Shelf
attribute [local go_sem] ak
def Bc (gs:List Fm)(i:Nat):Bool:=decide ((gs.getD i default).op=4)&&gs.any λ z=>z.cmp ((gs.getD i default).args.getD 0 default)==0
def Ov (gs:List Fm):Bool := !pO gs.length λ i => !Bc gs i
theorem ZH {gs:List Fm}{i:Nat}(hi:i<gs.length)(h:Bc gs i=true):Ov gs=true:=by
 unfold Ov;rw[eX hi (by rw[h];rfl)];rfl
theorem qbQ {gs:List Fm}(h:∀i,i<gs.length->Bc gs i=false):Ov gs=false:=by
 unfold Ov;rw[TQ λ j hj=>by rw[h j hj];rfl];rfl
theorem rY {D:Dom}(gs:List Fm)(A:Option Addr)(c:Nat)(w:World)(h:bZ w D gs A c)(hs:∀f,f∈gs->f.size<=1000000)(hlen:gs.length<=1000000)(hcl:∀b,D b->Cl w b)(hsort:Dq gs)(h4:∀f,f∈gs->f.op=4->0<f.args.length) :
  Calls Tryz.prog 206 #[.slice A gs.length c,.func (.func 16) #[] #[],.func (.func 207) #[] #[]] w λ e w'=>e = .returned (.bool (Ov gs))/\gV w w':=by
 have HR:=hid (h.mono (E := λ k=>D k/\k<w.heap.size) λ k hk hl=>⟨hk,hl⟩);have HS:=hid hs;have Md:=hid hcl;have HSO:=hid hsort;have H4:=hid h4;have eg:∀args W,(callFunc 207 args).run Tryz.prog W = .ok (.enter 207 args) W:=enters_of Tryz.func207 (by kernel_rfl) rfl;clear h hs hcl hsort h4
 go_enter Tryz.func206,Tryz.ntmps206
 go_wp2_with fail
 go_loopw [15] (λ q wr=>∃i:Nat,i<=gs.length/\q = .int .i64 (i:Int)/\gV w wr/\∀k,k<i->Bc gs k=false) (λ q _=>gs.length-(intOf q).toNat)
 case atStart=>exact⟨0,Nat.zero_le _,rfl,gV.refl _,λ k h=>absurd h (Nat.not_lt_zero _)⟩
 case round =>
  obtain⟨i,hi,rfl,hb,hall⟩:=hrel;have gB:=hid hb;have iY:=hid hall;have X0:=hid (HR.out.keep (Keeps.of_below hb.below λ _ h=>h.2));clear hb hall
  by_cases hlt:i<gs.length
  ·have hii:(i:Int)<gs.length:=by omega
   obtain⟨b1,o1,A',c',f,rfl,HX,hf⟩:=X0.out.get hlt
   have hfm:f∈gs:=by
    have:=HX.out;rw[<-this];exact fV hlt
   have HF:=hid hf;have mZ:=hid HX.out;obtain⟨q1,q2,p0,p1,p2,p3,p4,q3⟩:=hf;have HDOM:=hid q1;clear q1 q3 HX;go_upto_region 4 with(fail)
   refine aC λ W4 Ej=>?_;have HB4:=hid (show gV wr W4 by rw[Ej];exact(gV.refl wr).alloc _);have HE:=hid (show OB W4 wr.heap.size f.op f.name f.val f.bound A' f.args.length c' by rw[Ej];exact at_new _ _ _ rfl);have HF4:=hid (HF.out.keep (Keeps.of_below HB4.out.below λ k (hk:D k/\k<w.heap.size)=>Nat.lt_of_lt_of_le hk.2 gB.out.below.size));obtain⟨x0,x1,x2,x3,x4,xl⟩:=HE.out.cells;have qaL:=hid (Ob f _ W4 (bI.cells5 HF4.out.args) (H4.out f hfm));clear Ej p0 p1 p2 p3 p4 q2
   by_cases hq:f.op=4
   ·obtain⟨nf,hnf⟩:∃nf,nf=f.args.getD 0 default:=⟨_,rfl⟩
    have HNF:=hid hnf;have hpos:=H4.out f hfm hq
    have XM:=hid (show Calls Tryz.prog 207 #[.agg #[.int .i64 f.op,.string f.name,.int .i64 f.val,.int .i64 f.bound,.slice A' f.args.length c']] W4 λ e w'=>∃A9 c9,e = .returned (.tuple #[.agg #[.int .i64 nf.op,.string nf.name,.int .i64 nf.val,.int .i64 nf.bound,.slice A9 nf.args.length c9],.bool true])/\gV W4 w'/\bZ w' (λ k=>(D k/\k<w.heap.size)/\k<W4.heap.size) nf.args A9 c9 by
     refine qaL.out.mono ?_;rintro e w' ⟨kv,rfl,hb',hrd⟩;rw[if_pos hq,<-HNF.out]at hrd;obtain⟨A9,c9,rfl,YS⟩:=hrd
     exact⟨A9,c9,by rw[decide_eq_true hq],hb',YS⟩)
    have HNS:=hid (show nf.size<=1000000 by
     have h1:=HS.out f hfm;have:=Fe hpos
     rw[HNF.out];omega)
    have HOPP:=hid (show Bc gs i=gs.any λ z=>z.cmp nf==0 by unfold Bc;rw[mZ.out,decide_eq_true hq,<-HNF.out];rfl);clear hq hnf qaL;go_upto_region 5 with(first|(go_at_call 207;refine XM.out.mono ?_;rintro e W5 ⟨A9,c9,rfl,hb5,YS⟩))
    refine aC λ W6 Ui=>?_;have Hf:=hid (show gV wr W6 by rw[Ui];exact(HB4.out.trans hb5).alloc _);have XQ:=hid (show OB W6 W5.heap.size nf.op nf.name nf.val nf.bound A9 nf.args.length c9 by rw[Ui];exact at_new _ _ _ rfl);have HA6:=hid (show bZ W6 (λ k=>(D k/\k<w.heap.size)/\k<W4.heap.size) nf.args A9 c9 from YS.keep (Keeps.of_below (B:=W5.heap.size) (by rw[Ui];exact(Below.refl _ _).alloc (Nat.le_refl _) _) λ k hk=>Nat.lt_of_lt_of_le hk.2 hb5.below.size));have HRD6:=hid (X0.out.keep (Keeps.of_below Hf.out.below λ k hk=>Nat.lt_of_lt_of_le hk.2 gB.out.below.size))
    have HBS:=hid (Nk gs (some ⟨b1,o1,none⟩) c nf _ W6 HRD6.out (bI.cells5 HA6.out) HS.out hlen (λ k hk=>(Md.out k hk.1).of_eq ((gB.out.trans Hf.out).below.block k hk.2)) HSO.out);obtain⟨o6,Xr⟩:∃o6,o6=W5.heap.size:=⟨_,rfl⟩;rw[<-Xr]at XQ⊢;clear Ui hb5 YS Xr x0 x1 x2 x3 x4 xl;obtain⟨x0,x1,x2,x3,x4,xl⟩:=XQ.out.cells;rw[<-HOPP.out]at HBS;cases hop:Bc gs i
    ·rw[hop]at HBS
     have qdn:=hid hop;clear hop;go_wp2_with (first|(go_at_call 221;refine HBS.out.mono ?_;rintro e W7 ⟨⟨z,rfl⟩,hb7⟩))
     go_roundw
     case rel =>
      refine⟨i+1,by omega,by go_num,gB.out.trans (Hf.out.trans hb7),λ k hk=>?_⟩
      rcases Nat.lt_succ_iff_lt_or_eq.1 hk with h|h
      ·exact iY.out k h
      ·rw[h];exact qdn.out
     case measure=>simp[intOf];omega
    ·rw[hop]at HBS
     have HOP1:=hid (ZH hlt hop);clear hop;go_wp2_with (first|(go_at_call 221;refine HBS.out.mono ?_;rintro e W7 ⟨⟨z,rfl⟩,hb7⟩))
     go_ret
     exact⟨by rw[HOP1.out];rfl,gB.out.trans (Hf.out.trans hb7)⟩
   ·have XM:=hid (show Calls Tryz.prog 207 #[.agg #[.int .i64 f.op,.string f.name,.int .i64 f.val,.int .i64 f.bound,.slice A' f.args.length c']] W4 λ e w'=>∃A9 c9,e = .returned (.tuple #[.agg #[.int .i64 0,.string ⟨#[]⟩,.int .i64 0,.int .i64 0,.slice A9 0 c9],.bool false])/\gV W4 w' by
     refine qaL.out.mono ?_;rintro e w' ⟨kv,rfl,hb',hrd⟩;rw[if_neg hq]at hrd;obtain⟨A9,c9,rfl,YS⟩:=hrd
     exact⟨A9,c9,by rw[decide_eq_false hq];rfl,hb'⟩)
    have qdn:=hid (show Bc gs i=false by unfold Bc;rw[mZ.out,decide_eq_false hq];rfl);clear hq qaL;go_wp2_with (first|(go_at_call 207;refine XM.out.mono ?_;rintro e W5 ⟨A9,c9,rfl,hb5⟩))
    go_roundw
    case rel =>
     refine⟨i+1,by omega,by go_num,gB.out.trans ((HB4.out.trans hb5).alloc _),λ k hk=>?_⟩
     rcases Nat.lt_succ_iff_lt_or_eq.1 hk with h|h
     ·exact iY.out k h
     ·rw[h];exact qdn.out
    case measure=>simp[intOf];omega
  ·have hii:¬(i:Int)<gs.length:=by omega
   have HOP:=hid (qbQ λ k hk=>iY.out k (by omega));go_wp2_with fail
   go_ret
   exact⟨by rw[HOP.out];rfl,gB.out⟩
end Go.Proofs.YtdpbgcmfeajigaaGreatDoor
namespace Go.Proofs.YtdpbgcmfeajigaaGreatDoor
open Go.RowKit Go.Shelf
def jT (gs:List Fm):Nat->List Fm
 | 0 => []
 | j+1=>if 0<j/\(gs.getD j default).cmp (gs.getD (j-1) default)=0 then jT gs j else jT gs j ++ [gs.getD j default]
def BU (gs:List Fm):List Fm:=jT gs gs.length
theorem uU (gs:List Fm):∀i,i<=gs.length->(∀k,0<k->k<i->(gs.getD k default).cmp (gs.getD (k-1) default)≠0)->jT gs i=gs.take i
 | 0,_,_=>rfl
 | i+1,h,hne=>by
  have ih:=uU gs i (by omega) λ k h1 h2=>hne k h1 (by omega);simp only[jT];rw[if_neg (λ hh=>hne i hh.1 (by omega) hh.2),ih,bP gs default (by omega)]
theorem Fv {gs:List Fm}{j:Nat}(h0:0<j)(h:(gs.getD j default).cmp (gs.getD (j-1) default)=0):jT gs (j+1)=jT gs j:=by
 simp only[jT];rw[if_pos ⟨h0,h⟩]
theorem Yw {gs:List Fm}{j:Nat}(h:(gs.getD j default).cmp (gs.getD (j-1) default)≠0):jT gs (j+1)=jT gs j ++ [gs.getD j default]:=by
 simp only[jT];rw[if_neg λ hh=>h hh.2]
theorem QW {gs:List Fm}(h:gs.length<2):BU gs=gs:=by
 unfold BU;rw[uU gs _ (Nat.le_refl _) λ k h1 h2=>by omega,List.take_length]
theorem xY (gs:List Fm):∀j,j<=gs.length->∀x,x∈jT gs j ↔ x∈gs.take j
 | 0,_,x=>by simp[jT]
 | j+1,h,x=>by
  have ih:=xY gs j (by omega) x;rw[bP gs default (by omega),List.mem_append,<-ih]
  by_cases hc:0<j/\(gs.getD j default).cmp (gs.getD (j-1) default)=0
  ·rw[Fv hc.1 hc.2]
   constructor
   ·exact .inl
   ·rintro(h|h)
    ·exact h
    ·rw[List.mem_singleton]at h
     rw[h,nC.1 hc.2]
     have:gs.getD (j-1) default∈gs.take j:=by
      have e:(gs.take j).getD (j-1) default=gs.getD (j-1) default:=getD_take gs default (by omega);rw[<-e];exact fV (by rw[List.length_take];omega)
     exact(xY gs j (by omega) _).2 this
  ·simp only[jT]
   rw[if_neg hc,List.mem_append]
theorem Yz (gs:List Fm)(x:Fm):x∈BU gs ↔ x∈gs:=by
 unfold BU;rw[xY gs _ (Nat.le_refl _),List.take_length]
def sZ (gs:List Fm):Prop:=gs.Pairwise λ a b=>a.cmp b<0
theorem IV {gs:List Fm}(h:Dq gs):∀j,j<=gs.length->sZ (jT gs j)
 | 0,_=>List.Pairwise.nil
 | j+1,hj=>by
  have ih:=IV h j (by omega);simp only[jT]
  by_cases hc:0<j/\(gs.getD j default).cmp (gs.getD (j-1) default)=0
  ·rw[if_pos hc];exact ih
  ·rw[if_neg hc]
   unfold sZ at ih⊢;rw[List.pairwise_append];refine⟨ih,by simp,λ a ha b hb=>?_⟩;rw[List.mem_singleton]at hb;subst hb;have hm:=(xY gs j (by omega) a).1 ha;obtain⟨k,hk,rfl⟩:=List.getElem_of_mem hm;have hkj:k<j:=by rw[List.length_take]at hk;omega
   have e:(gs.take j)[k]=gs.getD k default:=by simp[List.getD,show k<gs.length by omega]
   rw[e];have h1:=BA h (show k<=j-1 by omega) (show j-1<gs.length by omega);have h2:=BA h (show j-1<=j by omega) (show j<gs.length by omega);have h3:(gs.getD (j-1) default).cmp (gs.getD j default)≠0 := λ e=>hc ⟨by omega,by rw[kR,e];rfl⟩;exact(qo (gs.getD k default) (gs.getD (j-1) default) (gs.getD j default)).lt h1 h2 (.inr (by omega))
theorem Yy {gs:List Fm}(h:Dq gs):sZ (BU gs):=IV h _ (Nat.le_refl _)
theorem sZ.sort {gs:List Fm}(h:sZ gs):Dq gs:=h.imp λ {a b} hab=>by omega
theorem sZ.ext:∀{l m:List Fm},sZ l->sZ m->(∀x,x∈l ↔ x∈m)->l=m
 | [],[],_,_,_=>rfl
 | [],b :: m,_,_,h=>absurd ((h b).2 (by simp)) (by simp)
 | a :: l,[],_,_,h=>absurd ((h a).1 (by simp)) (by simp)
 | a :: l,b :: m,h1,h2,h=>by
  rw[sZ,List.pairwise_cons]at h1 h2;have irr:∀x:Fm,¬x.cmp x<0 := λ x hx=>by rw[tY]at hx;omega
  have hab:a=b:=by
   rcases List.mem_cons.1 ((h a).1 (by simp))with e|e
   ·exact e
   ·rcases List.mem_cons.1 ((h b).2 (by simp))with e'|e'
    ·exact e'.symm
    ·have h3:=(qo b a b).lt (by have:=h2.1 a e;omega) (by have:=h1.1 b e';omega) (.inl (h2.1 a e))
     exact absurd h3 (irr b)
  subst hab
  congr 1
  refine sZ.ext h1.2 h2.2 λ x=>⟨λ hx=>?_,λ hx=>?_⟩
  ·rcases List.mem_cons.1 ((h x).1 (by simp[hx]))with e|e
   ·have:=h1.1 x hx
    rw[e]at this;exact absurd this (irr a)
   ·exact e
  ·rcases List.mem_cons.1 ((h x).2 (by simp[hx]))with e|e
   ·have:=h2.1 x hx
    rw[e]at this;exact absurd this (irr a)
   ·exact e
theorem bT.get {w:World}{base g c:Nat}{gs:List Fm}{sl:List (Option Addr×Nat)}(h:bT w base (some ⟨g,0,none⟩) c gs sl){i:Nat}(hi:i<gs.length):∃A' c' f,Hid (gs.getD i default=f)/\sl.getD i (none,0)=(A',c') /\
  w.cell? ⟨g,i*5,none⟩=some (.int .i64 f.op)/\w.cell? ⟨g,i*5+1,none⟩=some (.string f.name)/\w.cell? ⟨g,i*5+2,none⟩=some (.int .i64 f.val)/\w.cell? ⟨g,i*5+3,none⟩=some (.int .i64 f.bound)/\w.cell? ⟨g,i*5+4,none⟩=some (.slice A' f.args.length c') /\
  w.frozen? ⟨g,i*5,none⟩=false/\w.frozen? ⟨g,i*5+1,none⟩=false/\w.frozen? ⟨g,i*5+2,none⟩=false/\w.frozen? ⟨g,i*5+3,none⟩=false/\w.frozen? ⟨g,i*5+4,none⟩=false/\g<w.heap.size /\
  bZ w (λ k=>Nw base w k/\k≠g) f.args A' c':=by
 have key:∀j u,j<5->(fH (gs.getD i default) (sl.getD i (none,0)))[j]?=some u->w.cell? ⟨g,i*5+j,none⟩=some u/\w.frozen? ⟨g,i*5+j,none⟩=false/\g<w.heap.size := λ j u hj hu=>nK h.own (by rw[lu h.len hi hj];exact hu);have k0:=key 0 _ (by omega) rfl;have k1:=key 1 _ (by omega) rfl;have k2:=key 2 _ (by omega) rfl;have k3:=key 3 _ (by omega) rfl;have k4:=key 4 _ (by omega) rfl
 exact⟨(sl.getD i (none,0)).1,(sl.getD i (none,0)).2,gs.getD i default,hid rfl,rfl,k0.1,k1.1,k2.1,k3.1,k4.1,k0.2.1,k1.2.1,k2.2.1,k3.2.1,k4.2.1,k0.2.2,
  (h.arg i hi).mono λ k hk _=>⟨hk.1,λ e=>hk.2 (by rw[e];rfl)⟩⟩
theorem bT.take {w:World}{base g c n:Nat}{gs:List Fm}{sl:List (Option Addr×Nat)}(h:bT w base (some ⟨g,0,none⟩) c gs sl)(hn:n<=gs.length):bT w base (some ⟨g,0,none⟩) c (gs.take n) (sl.take n):=by
 have hl:(gs.take n).length=n:=by rw[List.length_take];omega
 refine⟨?_,by rw[List.length_take,List.length_take,h.len],λ i hi=>?_⟩
 ·have hcells:bQ (gs.take n) (sl.take n)=(bQ gs sl).take (n*5):=by
   have e1:gs=gs.take n++gs.drop n:=(List.take_append_drop n gs).symm;have e2:sl=sl.take n++sl.drop n:=(List.take_append_drop n sl).symm;have e3:(sl.take n).length=(gs.take n).length:=by rw[List.length_take,List.length_take,h.len]
   conv=>rhs;rw[e1,e2]
   rw[oJ e3,List.take_left' (by rw[iM e3,hl])]
  rw[hl,hcells]
  rcases h.own.2 with⟨h0,_⟩|⟨g',cap,cur,hv,hb,hg,q1,q2,q3,q4⟩
  ·cases h0
  ·injection hv with e1 e2 e3
   injection e1 with e1
   injection e1 with e1
   subst e1 e3;refine⟨by rw[List.length_take,h.own.1];omega,.inr ⟨g,c,cur,rfl,hb,hg,by omega,q2,q3,?_⟩⟩;rw[<-q4,List.take_take]
   congr 1
   omega
 ·rw[hl]at hi
  rw[getD_take gs default hi,getD_take sl (none,0) hi];exact(h.arg i (by omega)).mono λ k hk _=>⟨hk.1,λ e=>hk.2 (by injection e with e;rw[<-e];rfl)⟩
end Go.Proofs.YtdpbgcmfeajigaaGreatDoor
namespace Go.Proofs.YtdpbgcmfeajigaaGreatDoor
open Go.RowKit Go.Shelf
attribute [local go_sem] ak
theorem bT.cap {w:World}{base g c:Nat}{gs:List Fm}{sl:List (Option Addr×Nat)}(h:bT w base (some ⟨g,0,none⟩) c gs sl):gs.length<=c/\c<=9223372036854775807:=by
 rcases h.own.2 with⟨h0,_⟩|⟨g',cap,cur,hv,hb,hg,q1,q2,q3,q4⟩
 ·cases h0
 ·injection hv with e1 e2 e3
  subst e3;exact⟨q1,q2⟩
theorem Es {P:Program}(w:World)(t e ty:TypeId)(z:Value)(ht:P.underlying t=some (.slice e))(hv:∀w,(zeroValue e).run P w = .ok z w)(h1:∀v∈z.cells,v.oneCell'=true)(h0:0<z.cells.size)(b o n c:Nat)(hn:0<n)
  (hc:∀j,j<n*z.cells.size->(w.cell? ⟨b,o+j,none⟩).isSome=true) (hf:∀j,j<n*z.cells.size->w.frozen? ⟨b,o+j,none⟩=false) :
  (Builtin.clear_ #[t] ty #[.slice (some ⟨b,o,none⟩) n c]).run P w = .ok (.tuple #[]) (w.setCells b o (Builtin.zeroCells z.cells n).toList):=by
 have hl:(Builtin.zeroCells z.cells n).toList.length=n*z.cells.size:=by rw[Array.length_toList,size_zeroCells]
 have hst:=run_storeCells_cells (P:=P) b o (Builtin.zeroCells z.cells n).toList 0 w (by rw[hl];simpa using hc) (by rw[hl];simpa using hf) (by
  intro v hv';unfold Builtin.zeroCells at hv';rw[Array.toList_map,List.mem_map]at hv';obtain⟨i,_,rfl⟩:=hv';have hlt:i % z.cells.size<z.cells.size:=Nat.mod_lt _ h0;rw[getElem!_pos z.cells _ hlt]
  exact h1 _ (Array.getElem_mem hlt))
 simp only[Nat.add_zero]at hst;obtain⟨m,rfl⟩:∃m,n=m+1:=⟨n-1,by omega⟩;simp[Builtin.clear_,run_underlying ht,hv,hst]
theorem xC (g:Nat)(t:TypeId):∀(vs:List Value) (o:Nat) (w:World) (cur:Array Value),w.heap[g]?=some (.cells cur t (0,0))->∃cur',(w.setCells g o vs).heap[g]?=some (.cells cur' t (0,0))/\cur'.size=cur.size/\∀i,i<o->cur'[i]?=cur[i]?
 | [],_,_,cur,h=>⟨cur,h,rfl,λ _ _=>rfl⟩
 | v :: vs,o,w,cur,h=>by
  obtain⟨cur',h1,h2,h3⟩:=xC g t vs (o+1) (w.setCell ⟨g,o,none⟩ v) _ (aB h v);refine⟨cur',h1,by simpa using h2,λ i hi=>?_⟩;rw[h3 i (by omega),Array.getElem?_setIfInBounds,if_neg (by omega)]
theorem bT.past {w:World}{base g c:Nat}{gs:List Fm}{sl:List (Option Addr×Nat)}(h:bT w base (some ⟨g,0,none⟩) c gs sl)(vs:List Value)(o:Nat)(ho:gs.length*5<=o):bT (w.setCells g o vs) base (some ⟨g,0,none⟩) c gs sl:=by
 have hc:aH (λ x=>x=g) w (w.setCells g o vs):=⟨(bM g vs o w).1,(bM g vs o w).2.1,(bM g vs o w).2.2.1,Nat.le_of_eq (bM g vs o w).2.2.2.1.symm,λ k _ hk=>(bM g vs o w).2.2.2.2.1 k hk⟩;refine⟨⟨h.own.1,?_⟩,h.len,λ i hi=>?_⟩
 ·rcases h.own.2 with⟨h0,_⟩|⟨g',cap,cur,hv,hb,hg,q1,q2,q3,q4⟩
  ·cases h0
  ·injection hv with e1 e2 e3
   injection e1 with e1
   injection e1 with e1
   subst e1 e3;obtain⟨cur',k1,k2,k3⟩:=xC g _ vs o w cur hg;refine .inr ⟨g,c,cur',rfl,hb,k1,q1,q2,by omega,?_⟩;rw[<-q4];apply List.ext_getElem?;intro i
   by_cases hi:i<gs.length*5
   ·rw[List.getElem?_take_of_lt hi,List.getElem?_take_of_lt hi,Array.getElem?_toList,Array.getElem?_toList,k3 i (by omega)]
   ·rw[List.getElem?_take_eq_none (by omega),List.getElem?_take_eq_none (by omega)]
 ·have hk:Keeps (λ k=>Nw base w k/\(Value.slice (some ⟨g,0,none⟩) gs.length c).ownBlock≠some k) w (w.setCells g o vs):=hc.keeps λ k _ hk hv=>hk.2 (by rw[hv];rfl)
  exact((h.arg i hi).keep hk).mono λ k hk' _=>⟨⟨hk'.1.1,hk'.1.2.of_eq (hk.block k hk' hk'.1.2.lt)⟩,hk'.2⟩
theorem Ls (w:World)(b o:Nat)(vs:List Value):aH (λ x=>x=b) w (w.setCells b o vs) :=
 ⟨(bM b vs o w).1,(bM b vs o w).2.1,(bM b vs o w).2.2.1,Nat.le_of_eq (bM b vs o w).2.2.2.1.symm,λ k _ hk=>(bM b vs o w).2.2.2.2.1 k hk⟩
theorem Ns {w:World}{base g c n cb:Nat}{gs:List Fm}{sl:List (Option Addr×Nat)}(h:bT w base (some ⟨g,0,none⟩) c gs sl)(hn:n=gs.length)(hs:∀f,f∈gs->f.size<=1000000)(hlen:gs.length<=1000000)
  (hcb:w.cell? ⟨cb,0,none⟩=some (.func (.func 16) #[] #[])) (hne:cb≠g) :
  Calls Tryz.prog 219 #[.slice (some ⟨g,0,none⟩) n c,.func (.func 220) #[] #[.pointer (some ⟨cb,0,none⟩)]] w λ e w' =>
   e = .returned (.slice (some ⟨g,0,none⟩) (BU gs).length c)/\(∃sl',bT w' base (some ⟨g,0,none⟩) c (BU gs) sl')/\aH (λ x=>x=g) w w':=by
 subst hn;have HR:=hid h;have HS:=hid hs;have HCB:=hid hcb;have hcbl:=World.block_lt_of_cell? w _ hcb;have hgl:=(h.ge rfl).2;have eg:∀args W,(callFunc 220 args).run Tryz.prog W = .ok (.enter 220 args) W:=enters_of Tryz.func220 (by kernel_rfl) rfl;clear h hs hcb
 by_cases h2:gs.length<2
 ·have h2i:((gs.length:Int)<2):=by omega
  have HD:=hid (QW h2)
  go_enter Tryz.func219,Tryz.ntmps219
  go_wp2_with fail
  go_ret
  rw[HD.out];exact⟨rfl,⟨sl,HR.out⟩,aH.refl _ _⟩
 ·have h2i:¬((gs.length:Int)<2):=by omega
  go_enter Tryz.func219,Tryz.ntmps219
  go_wp2_with fail
  go_loopw [5] (λ q wr=>∃j:Nat,j+1<=gs.length/\q = .int .i64 ((j:Int)+1)/\gV w wr/\∀k,0<k->k<j+1->(gs.getD k default).cmp (gs.getD (k-1) default)≠0) (λ q _=>gs.length-(intOf q).toNat)
  case atStart=>exact⟨0,by omega,rfl,gV.refl _,λ k h1 h2=>by omega⟩
  case round =>
   obtain⟨j,hj,rfl,hb,hall⟩:=hrel;have gB:=hid hb;have iY:=hid hall;have X0:=hid (HR.out.eu (aH.aS (V := λ _=>False) hb.below) λ _ h=>h.elim);clear hb hall
   by_cases hlt:j+1<gs.length
   ·have hii:(j:Int)+1<(gs.length:Int):=by omega
    have hji:(j:Int)<(gs.length:Int):=by omega
    obtain⟨A1,c1,f1,uK,hs1,p0,p1,p2,p3,p4,_,_,_,_,_,gl,ha1⟩:=X0.out.get (i:=j) (by omega);obtain⟨A2,c2,f2,Ho,hs2,r0,r1,r2,r3,r4,_,_,_,_,_,_,ha2⟩:=X0.out.get (i:=j+1) hlt;have hwj:IntKind.i64.wrap ((j:Int)+1-1)=(j:Int):=by rw[show(j:Int)+1-1=(j:Int)by omega];exact IntWalk.i64_in _ (by omega)
    have hwj2:IntKind.i64.wrap (j:Int)=(j:Int):=IntWalk.i64_in _ (by omega);have hwj3:wrap64 ((j:Int)+1-1)=(j:Int):=(IntWalk.i64_left _).symm.trans hwj;have hj0:(0:Int)<=(j:Int):=by omega
    have hj1:(0:Int)<=(j:Int)+1:=by omega
    go_upto_region 6 with(fail)
    have hsz2:f2.size<=1000000:=HS.out f2 (by have:=Ho.out;rw[<-this];exact fV hlt);have XE:=hid ((gB.out.below.cell (p:=⟨cb,0,none⟩) hcbl).trans HCB.out)
    have aI:Hid (∀W':World,gV wr W'->W'.cell? ⟨g,(j+1)*5,none⟩=some (.int .i64 f2.op)/\W'.cell? ⟨g,(j+1)*5+1,none⟩=some (.string f2.name)/\W'.cell? ⟨g,(j+1)*5+2,none⟩=some (.int .i64 f2.val)/\W'.cell? ⟨g,(j+1)*5+3,none⟩=some (.int .i64 f2.bound)/\W'.cell? ⟨g,(j+1)*5+4,none⟩=some (.slice A2 f2.args.length c2)/\W'.cell? ⟨g,j*5,none⟩=some (.int .i64 f1.op)/\W'.cell? ⟨g,j*5+1,none⟩=some (.string f1.name)/\W'.cell? ⟨g,j*5+2,none⟩=some (.int .i64 f1.val)/\W'.cell? ⟨g,j*5+3,none⟩=some (.int .i64 f1.bound)/\W'.cell? ⟨g,j*5+4,none⟩=some (.slice A1 f1.args.length c1)):=hid λ W' hb =>
     ⟨(hb.below.cell (p:=⟨g,_,none⟩) gl).trans r0,(hb.below.cell (p:=⟨g,_,none⟩) gl).trans r1,(hb.below.cell (p:=⟨g,_,none⟩) gl).trans r2,(hb.below.cell (p:=⟨g,_,none⟩) gl).trans r3,(hb.below.cell (p:=⟨g,_,none⟩) gl).trans r4,(hb.below.cell (p:=⟨g,_,none⟩) gl).trans p0,(hb.below.cell (p:=⟨g,_,none⟩) gl).trans p1,(hb.below.cell (p:=⟨g,_,none⟩) gl).trans p2,(hb.below.cell (p:=⟨g,_,none⟩) gl).trans p3,(hb.below.cell (p:=⟨g,_,none⟩) gl).trans p4⟩
    have aX:Hid (∀W':World,gV wr W'->Calls Tryz.prog 220 #[.agg #[.int .i64 f2.op,.string f2.name,.int .i64 f2.val,.int .i64 f2.bound,.slice A2 f2.args.length c2],.agg #[.int .i64 f1.op,.string f1.name,.int .i64 f1.val,.int .i64 f1.bound,.slice A1 f1.args.length c1],.pointer (some ⟨cb,0,none⟩)] W' λ e w'=>e = .returned (.bool (f2.cmp f1==0))/\gV wr w'):=hid λ W' hb=>by
     have hD:∀k,(Nw base wr k/\k≠g)/\k<wr.heap.size->Cl W' k := λ k hk=>hk.1.1.2.of_eq (hb.below.block k hk.2);refine(Ue f2 f1 _ _ cb W' (bI.cells5 ((ha2.mono (E := λ k=>(Nw base wr k/\k≠g)/\k<wr.heap.size) λ k hk hl=>⟨hk,hl⟩).keep (Keeps.of_below hb.below λ _ h=>h.2))) (bI.cells5 ((ha1.mono (E := λ k=>(Nw base wr k/\k≠g)/\k<wr.heap.size) λ k hk hl=>⟨hk,hl⟩).keep (Keeps.of_below hb.below λ _ h=>h.2))) hsz2 (.inl hD) ((hb.below.cell (p:=⟨cb,0,none⟩) (World.block_lt_of_cell? _ ⟨cb,0,none⟩ XE.out)).trans XE.out)).mono ?_;rintro e w' ⟨rfl,hb'⟩;exact⟨rfl,hb.trans hb'⟩
    have HI0:=hid (gV.refl wr);have HI1:=hid (show gV wr (World.drew wr)from(gV.refl wr).drewN 1);have HI2:=hid (show∀i,gV wr (World.drewN wr i)from λ i=>(gV.refl wr).drewN i);have HAA:=hid (And.intro ha1 ha2);clear ha1 ha2
    go_region_held3 (λ W':World=>W'.cell? ⟨g,(j+1)*5,none⟩=some (.int .i64 f2.op)/\W'.cell? ⟨g,(j+1)*5+1,none⟩=some (.string f2.name)/\W'.cell? ⟨g,(j+1)*5+2,none⟩=some (.int .i64 f2.val)/\W'.cell? ⟨g,(j+1)*5+3,none⟩=some (.int .i64 f2.bound)/\W'.cell? ⟨g,(j+1)*5+4,none⟩=some (.slice A2 f2.args.length c2)/\W'.cell? ⟨g,j*5,none⟩=some (.int .i64 f1.op)/\W'.cell? ⟨g,j*5+1,none⟩=some (.string f1.name)/\W'.cell? ⟨g,j*5+2,none⟩=some (.int .i64 f1.val)/\W'.cell? ⟨g,j*5+3,none⟩=some (.int .i64 f1.bound)/\W'.cell? ⟨g,j*5+4,none⟩=some (.slice A1 f1.args.length c1))
     (first|(with_reducible exact aI.out _ hI)|(go_keep;done))
     ((go_at_call 220;(with_reducible refine(aX.out _ (by first|exact HI0.out|exact HI1.out|exact HI2.out _)).mono ?_);rintro e W9 ⟨rfl,hI⟩))
    all_goals
     have aT:=hid (gB.out.trans hI);clear p0 p1 p2 p3 p4 r0 r1 r2 r3 r4
     by_cases hq:f2.cmp f1=0
     ·have hq1:(f2.cmp f1==0)=true:=by rw[hq];rfl
      have HQ:=hid (show(gs.getD (j+1) default).cmp (gs.getD j default)=0 by rw[uK.out,Ho.out];exact hq);rw[hq1];clear hq hq1;go_upto_region 8 with(fail)
      have HR9:=hid (HR.out.eu (aH.aS (V := λ _=>False) aT.out.below) λ _ h=>h.elim);have hcap:=HR9.out.cap;have hcj:¬c=j+1:=by omega
      have HC9:=hid (show aH (λ x=>x=g) w W9 from aH.aS aT.out.below);obtain⟨n2,hn2⟩:∃n2,n2=gs.length-(j+1):=⟨_,rfl⟩;have Xk:=hid hn2
      have X4:=hid (show jT gs (j+1+(0+1))=gs.take (j+1)by
       rw[Nat.zero_add,Fv (by omega) (by rw[Nat.add_sub_cancel];exact HQ.out)]
       exact uU gs _ (by omega) iY.out)
      rw[<-hn2];clear hn2 hI aI aX HI0 HI1 HI2 HAA uK Ho hs1 hs2;go_wp2_with fail
      go_loopw [5,7] (λ q r wr=>∃(k m:Nat) (R:List Fm) (slR:List (Option Addr×Nat)),j+1+(k+1)<=gs.length/\r = .int .i64 ((k:Int)+1)/\m=(jT gs (j+1+(k+1))).length/\q = .int .i64 (m:Int)/\aH (λ x=>x=g) w wr/\bT wr base (some ⟨g,0,none⟩) c R slR/\R.length=gs.length /\
       (∀p,j+1+k<=p->p<gs.length->R.getD p default=gs.getD p default)/\R.take m=jT gs (j+1+(k+1))/\m<=j+1+k) (λ _ r _=>gs.length-(intOf r).toNat)
      case atStart =>
       refine⟨0,j+1,gs,sl,by omega,rfl,?_,by go_num,HC9.out,HR9.out,rfl,λ p _ _=>rfl,X4.out.symm,by omega⟩;rw[X4.out,List.length_take];omega
      case round =>
       obtain⟨k,m,R,slR,hk,rfl,hm,rfl,hc,hr,hrl,qgE,hpre,hmk⟩:=hrel;have HC:=hid hc;have J7:=hid hr;have qaW:=hid qgE;have UU:=hid hpre;have HM:=hid hm;have pK:=hid hrl;clear hc hr qgE hpre hm hrl
       by_cases hlt2:j+1+(k+1)<gs.length
       ·have hii2:(k:Int)+1<(n2:Int):=by have:=Xk.out;omega
        have hii1:(k:Int)<(n2:Int):=by omega
        obtain⟨B1,d1,x1,uK,hs1,p0,p1,p2,p3,p4,_,_,_,_,_,gl,ha1⟩:=J7.out.get (i:=j+1+k) (by have:=pK.out;omega);obtain⟨B2,d2,x2,Ho,hs2,r0,r1,r2,r3,r4,_,_,_,_,_,_,ha2⟩:=J7.out.get (i:=j+1+(k+1)) (by have:=pK.out;omega);have ea1:(j+1+k)*5=(j+1)*5+k*5:=by omega
        have ea2:(j+1+(k+1))*5=(j+1)*5+(k+1)*5:=by omega
        rw[ea1]at p0 p1 p2 p3 p4;rw[ea2]at r0 r1 r2 r3 r4;have hx1:x1=gs.getD (j+1+k) default:=by rw[<-uK.out];exact qaW.out _ (Nat.le_refl _) (by omega)
        have hx2:x2=gs.getD (j+1+(k+1)) default:=by rw[<-Ho.out];exact qaW.out _ (by omega) hlt2
        have hsz2:x2.size<=1000000:=HS.out x2 (by rw[hx2];exact fV hlt2);have HXE:=hid (And.intro hx1 hx2);have XE:=hid (show wr.cell? ⟨cb,0,none⟩=some (.func (.func 16) #[] #[])from(World.cell?_of_block (a:=⟨cb,0,none⟩) (HC.out.block cb hcbl hne)).trans HCB.out);have hwk:IntKind.i64.wrap (k:Int)=(k:Int):=IntWalk.i64_in _ (by omega);have hwk2:IntKind.i64.wrap ((k:Int)+1-1)=(k:Int):=by rw[show(k:Int)+1-1=(k:Int)by omega];exact hwk
        clear hx1 hx2 ea1 ea2;have hwk3:wrap64 ((k:Int)+1-1)=(k:Int):=(IntWalk.i64_left _).symm.trans hwk2;have hk0:(0:Int)<=(k:Int):=by omega
        have hk1:(0:Int)<=(k:Int)+1:=by omega
        go_upto_region 11 with(fail)
        have aI:Hid (∀W':World,gV wr W'->W'.cell? ⟨g,(j+1)*5+(k+1)*5,none⟩=some (.int .i64 x2.op)/\W'.cell? ⟨g,(j+1)*5+(k+1)*5+1,none⟩=some (.string x2.name)/\W'.cell? ⟨g,(j+1)*5+(k+1)*5+2,none⟩=some (.int .i64 x2.val)/\W'.cell? ⟨g,(j+1)*5+(k+1)*5+3,none⟩=some (.int .i64 x2.bound)/\W'.cell? ⟨g,(j+1)*5+(k+1)*5+4,none⟩=some (.slice B2 x2.args.length d2)/\W'.cell? ⟨g,(j+1)*5+k*5,none⟩=some (.int .i64 x1.op)/\W'.cell? ⟨g,(j+1)*5+k*5+1,none⟩=some (.string x1.name)/\W'.cell? ⟨g,(j+1)*5+k*5+2,none⟩=some (.int .i64 x1.val)/\W'.cell? ⟨g,(j+1)*5+k*5+3,none⟩=some (.int .i64 x1.bound)/\W'.cell? ⟨g,(j+1)*5+k*5+4,none⟩=some (.slice B1 x1.args.length d1)):=hid λ W' hb =>
         ⟨(hb.below.cell (p:=⟨g,_,none⟩) gl).trans r0,(hb.below.cell (p:=⟨g,_,none⟩) gl).trans r1,(hb.below.cell (p:=⟨g,_,none⟩) gl).trans r2,(hb.below.cell (p:=⟨g,_,none⟩) gl).trans r3,(hb.below.cell (p:=⟨g,_,none⟩) gl).trans r4,(hb.below.cell (p:=⟨g,_,none⟩) gl).trans p0,(hb.below.cell (p:=⟨g,_,none⟩) gl).trans p1,(hb.below.cell (p:=⟨g,_,none⟩) gl).trans p2,(hb.below.cell (p:=⟨g,_,none⟩) gl).trans p3,(hb.below.cell (p:=⟨g,_,none⟩) gl).trans p4⟩
        have aX:Hid (∀W':World,gV wr W'->Calls Tryz.prog 220 #[.agg #[.int .i64 x2.op,.string x2.name,.int .i64 x2.val,.int .i64 x2.bound,.slice B2 x2.args.length d2],.agg #[.int .i64 x1.op,.string x1.name,.int .i64 x1.val,.int .i64 x1.bound,.slice B1 x1.args.length d1],.pointer (some ⟨cb,0,none⟩)] W' λ e w'=>e = .returned (.bool (x2.cmp x1==0))/\gV wr w'):=hid λ W' hb=>by
         have hD:∀k,(Nw base wr k/\k≠g)/\k<wr.heap.size->Cl W' k := λ k hk=>hk.1.1.2.of_eq (hb.below.block k hk.2);refine(Ue x2 x1 _ _ cb W' (bI.cells5 ((ha2.mono (E := λ k=>(Nw base wr k/\k≠g)/\k<wr.heap.size) λ k hk hl=>⟨hk,hl⟩).keep (Keeps.of_below hb.below λ _ h=>h.2))) (bI.cells5 ((ha1.mono (E := λ k=>(Nw base wr k/\k≠g)/\k<wr.heap.size) λ k hk hl=>⟨hk,hl⟩).keep (Keeps.of_below hb.below λ _ h=>h.2))) hsz2 (.inl hD) ((hb.below.cell (p:=⟨cb,0,none⟩) (World.block_lt_of_cell? _ ⟨cb,0,none⟩ XE.out)).trans XE.out)).mono ?_;rintro e w' ⟨rfl,hb'⟩;exact⟨rfl,hb.trans hb'⟩
        have HI0:=hid (gV.refl wr);have HI1:=hid (show gV wr (World.drew wr)from(gV.refl wr).drewN 1);have HI2:=hid (show∀i,gV wr (World.drewN wr i)from λ i=>(gV.refl wr).drewN i);have HAA:=hid (And.intro ha1 ha2);clear ha1 ha2
        go_region_held3 (λ W':World=>W'.cell? ⟨g,(j+1)*5+(k+1)*5,none⟩=some (.int .i64 x2.op)/\W'.cell? ⟨g,(j+1)*5+(k+1)*5+1,none⟩=some (.string x2.name)/\W'.cell? ⟨g,(j+1)*5+(k+1)*5+2,none⟩=some (.int .i64 x2.val)/\W'.cell? ⟨g,(j+1)*5+(k+1)*5+3,none⟩=some (.int .i64 x2.bound)/\W'.cell? ⟨g,(j+1)*5+(k+1)*5+4,none⟩=some (.slice B2 x2.args.length d2)/\W'.cell? ⟨g,(j+1)*5+k*5,none⟩=some (.int .i64 x1.op)/\W'.cell? ⟨g,(j+1)*5+k*5+1,none⟩=some (.string x1.name)/\W'.cell? ⟨g,(j+1)*5+k*5+2,none⟩=some (.int .i64 x1.val)/\W'.cell? ⟨g,(j+1)*5+k*5+3,none⟩=some (.int .i64 x1.bound)/\W'.cell? ⟨g,(j+1)*5+k*5+4,none⟩=some (.slice B1 x1.args.length d1))
         (first|(with_reducible exact aI.out _ hI2)|(go_keep;done))
         ((go_at_call 220;(with_reducible refine(aX.out _ (by first|exact HI0.out|exact HI1.out|exact HI2.out _)).mono ?_);rintro e W9 ⟨rfl,hI2⟩))
        all_goals
         have qeW:=hid (HC.out.trans (aH.aS hI2.below))
         by_cases hq:x2.cmp x1=0
         ·have hq1:(x2.cmp x1==0)=true:=by rw[hq];rfl
          have zQ:=hid (show jT gs (j+1+(k+1+1))=jT gs (j+1+(k+1))by
           refine Fv (j:=j+1+(k+1)) (by omega) ?_;rw[show j+1+(k+1)-1=j+1+k by omega,<-HXE.out.1,<-HXE.out.2]
           exact hq)
          have HF9:=hid (J7.out.eu (aH.aS (V := λ _=>False) hI2.below) λ _ h=>h.elim);rw[hq1];clear hq hq1 p0 p1 p2 p3 p4 r0 r1 r2 r3 r4 hI2;go_wp2_with fail
          go_roundw
          case rel=>exact⟨k+1,m,R,slR,by omega,by go_num,by rw[zQ.out];exact HM.out,rfl,qeW.out,HF9.out,pK.out,λ p h1 h2=>qaW.out p (by omega) h2,by rw[zQ.out];exact UU.out,by omega⟩
          case measure=>simp[intOf];omega
         ·have hq1:(x2.cmp x1==0)=false:=ay hq
          have wL:=hid (show jT gs (j+1+(k+1+1))=jT gs (j+1+(k+1)) ++ [x2]by
           have:jT gs (j+1+(k+1)+1)=_:=Yw (gs:=gs) (j:=j+1+(k+1)) (by
            rw[show j+1+(k+1)-1=j+1+k by omega,<-HXE.out.1,<-HXE.out.2]
            exact hq)
           rw[HXE.out.2]
           exact this)
          have hml:m<R.length:=by have:=pK.out;omega
          have HF9:=hid (J7.out.eu (aH.aS (V := λ _=>False) hI2.below) λ _ h=>h.elim);obtain⟨e1,e2,e3,hxm,hsm,u0,u1,u2,u3,u4,v0,v1,v2,v3,v4,gl9,ham⟩:=HF9.out.get hml;obtain⟨s0,s1,s2,s3,s4,s5⟩:=aI.out W9 hI2;have hmi:(m:Int)<(gs.length:Int):=by have:=pK.out;omega
          have HA9:=hid (show bZ W9 (λ k=>Nw base W9 k/\k≠g) x2.args B2 d2 from(by
           have hk:Keeps (λ k=>(Nw base wr k/\k≠g)/\k<wr.heap.size) wr W9:=Keeps.of_below hI2.below λ _ h=>h.2
           exact((HAA.out.2.mono (E := λ k=>(Nw base wr k/\k≠g)/\k<wr.heap.size) λ k hk hl=>⟨hk,hl⟩).keep hk).mono λ k hk' _=>⟨⟨hk'.1.1.1,hk'.1.1.2.of_eq (hk.block k hk' hk'.2)⟩,hk'.1.2⟩))
          rw[hq1];clear hq hq1 p0 p1 p2 p3 p4 r0 r1 r2 r3 r4 hI2 hxm hsm ham s5;go_wp2_with fail
          go_roundw
          case rel =>
           refine⟨k+1,m+1,R.set m x2,slR.set m (B2,d2),by omega,by go_num,by rw[wL.out,List.length_append,<-HM.out];rfl,by go_num,qeW.out.trans (GI _ _ _ _ _ _ _ _),HF9.out.set hml x2 B2 d2 HA9.out,by rw[List.length_set];exact pK.out,λ p h1 h2=>?_,?_,by omega⟩
           ·rw[getD_set_ne (by omega)]
            exact qaW.out p (by omega) h2
           ·rw[wL.out,<-UU.out,bP _ default (by rw[List.length_set];exact hml),rP hml,List.take_set_of_le (Nat.le_refl _)]
          case measure=>simp[intOf];omega
       ·have hii2:¬(k:Int)+1<(n2:Int):=by have:=Xk.out;omega
        have hkn:j+1+(k+1)=gs.length:=by omega
        have qcX:=hid (show jT gs (j+1+(k+1))=BU gs by rw[hkn];rfl);have hmn:m<gs.length:=by omega
        have hcm:¬c=m:=by omega
        have hmi:¬(gs.length:Int)<(m:Int):=by omega
        have hmi2:¬(m:Int)<0:=by omega
        obtain⟨L,hL⟩:∃L,L=(Builtin.zeroCells (Value.agg #[.int .i64 0,.string ⟨#[]⟩,.int .i64 0,.int .i64 0,.slice none 0 0]).cells (gs.length-m)).toList:=⟨_,rfl⟩
        have hcl:∀ty,(Builtin.clear_ #[22] ty #[.slice (some ⟨g,m*5,none⟩) (gs.length-m) (c-m)]).run Tryz.prog wr = .ok (.tuple #[]) (wr.setCells g (m*5) L) := λ ty=>by
         rw[hL];refine Es wr _ 24 ty _ Tryz.underlying22 Tryz.zeroValue24 (by simp[Value.cells,Value.oneCell']) (by decide) g (m*5) (gs.length-m) (c-m) (by omega) (λ x hx=>?_) (λ x hx=>?_)
         ·have hx':x<(gs.length-m)*5:=hx
          have hlx:m*5+x<(bQ R slR).length:=by rw[iM J7.out.len,pK.out];omega
          have hlen:(bQ R slR)[m*5+x]?=some (bQ R slR)[m*5+x]:=List.getElem?_eq_getElem hlx;rw[(nK J7.out.own hlen).1];rfl
         ·have hx':x<(gs.length-m)*5:=hx
          have hlx:m*5+x<(bQ R slR).length:=by rw[iM J7.out.len,pK.out];omega
          have hlen:(bQ R slR)[m*5+x]?=some (bQ R slR)[m*5+x]:=List.getElem?_eq_getElem hlx;exact(nK J7.out.own hlen).2.1
        clear hL
        have qc8:=hid (show bT (wr.setCells g (m*5) L) base (some ⟨g,0,none⟩) c (BU gs) (slR.take m)by
         have h1:=J7.out.take (n:=m) (by rw[pK.out];omega);rw[UU.out,qcX.out]at h1;refine h1.past _ _ ?_
         rw[<-qcX.out,<-HM.out];exact Nat.le_refl _)
        have HML:=hid (show(BU gs).length=m by rw[<-qcX.out,<-HM.out]);have HCE:=hid (HC.out.trans (Ls wr g (m*5) L));clear hkn;go_wp2_with fail
        go_ret
        rw[HML.out];exact⟨rfl,⟨_,qc8.out⟩,HCE.out⟩
     ·have hq1:(f2.cmp f1==0)=false:=ay hq
      have HQ:=hid (show(gs.getD (j+1) default).cmp (gs.getD j default)≠0 by rw[uK.out,Ho.out];exact hq);rw[hq1];clear hq hq1;go_wp2_with fail
      go_roundw
      case rel =>
       refine⟨j+1,by omega,by go_num,aT.out,λ k h1 h2=>?_⟩
       rcases Nat.lt_succ_iff_lt_or_eq.1 h2 with h|h
       ·exact iY.out k h1 h
       ·subst h
        rw[Nat.add_sub_cancel];exact HQ.out
      case measure=>simp[intOf];omega
   ·have hii:¬(j:Int)+1<(gs.length:Int):=by omega
    have HD:=hid (show BU gs=gs by
     unfold BU
     rw[uU gs _ (Nat.le_refl _) λ k h1 h2=>iY.out k h1 (by omega),List.take_length])
    go_wp2_with fail
    go_ret
    rw[HD.out];exact⟨rfl,⟨sl,X0.out⟩,aH.aS gB.out.below⟩
end Go.Proofs.YtdpbgcmfeajigaaGreatDoor
namespace Go.Proofs.YtdpbgcmfeajigaaGreatDoor
open Go.RowKit Go.Shelf
attribute [local go_sem] ak run_store_func
def wV (x:Fm):List Fm->List Fm
 | [] => [x]
 | y :: l=>if x.cmp y<0 then x :: y :: l else if x.cmp y=0 then y :: l else y :: wV x l
theorem FW (x:Fm):∀(l:List Fm) (z:Fm),z∈wV x l ↔ z=x\/z∈l
 | [],z=>by simp[wV]
 | y :: l,z=>by
  unfold wV
  by_cases h1:x.cmp y<0
  ·rw[if_pos h1,List.mem_cons]
  ·rw[if_neg h1]
   by_cases h2:x.cmp y=0
   ·rw[if_pos h2]
    have:=nC.1 h2;subst this;rw[List.mem_cons]
    constructor
    ·rintro(h|h)
     ·exact .inl h
     ·exact .inr (.inr h)
    ·rintro(h|h|h)
     ·exact .inl h
     ·exact .inl h
     ·exact .inr h
   ·rw[if_neg h2,List.mem_cons,FW x l z,List.mem_cons]
    constructor
    ·rintro(h|h|h)
     ·exact .inr (.inl h)
     ·exact .inl h
     ·exact .inr (.inr h)
    ·rintro(h|h|h)
     ·exact .inr (.inl h)
     ·exact .inl h
     ·exact .inr (.inr h)
theorem NU (x:Fm):∀{l:List Fm},sZ l->sZ (wV x l)
 | [],_=>by simp[wV,sZ]
 | y :: l,h=>by
  have h0:=h;rw[sZ,List.pairwise_cons]at h;unfold wV
  by_cases h1:x.cmp y<0
  ·rw[if_pos h1,sZ,List.pairwise_cons]
   refine⟨λ z hz=>?_,h0⟩
   rcases List.mem_cons.1 hz with e|e
   ·rw[e];exact h1
   ·exact(qo x y z).lt (by omega) (by have:=h.1 z e;omega) (.inl h1)
  ·rw[if_neg h1]
   by_cases h2:x.cmp y=0
   ·rw[if_pos h2];exact h0
   ·rw[if_neg h2,sZ,List.pairwise_cons]
    refine⟨λ z hz=>?_,NU x h.2⟩
    rcases(FW x l z).1 hz with e|e
    ·rw[e,kR];omega
    ·exact h.1 z e
def uF (gs:List Fm):List Fm:=gs.foldr wV []
theorem GL:∀gs:List Fm,sZ (uF gs)
 | []=>List.Pairwise.nil
 | x :: gs=>NU x (GL gs)
theorem uG:∀(gs:List Fm) (z:Fm),z∈uF gs ↔ z∈gs
 | [],z=>by simp[uF]
 | x :: gs,z=>by
  show z∈wV x (uF gs) ↔ _;rw[FW,uG gs z,List.mem_cons]
theorem sZ.set {ds gs:List Fm}(h:sZ ds)(hm:∀x,x∈ds ↔ x∈gs):ds=uF gs:=sZ.ext h (GL gs) λ x=>by rw[hm,uG]
theorem OU (gs:List Fm):(uF gs).length<=gs.length:=by
 have:∀(x:Fm) (l:List Fm),(wV x l).length<=l.length+1:=by
  intro x l
  induction l with
  | nil=>simp[wV]
  | cons y l ih =>
   unfold wV
   split
   ·simp
   ·split
    ·simp
    ·simp only[List.length_cons];omega
 induction gs with
 | nil=>exact Nat.le_refl _
 | cons x gs ih =>
  show(wV x (uF gs)).length<=_;have:=this x (uF gs);simp only[List.length_cons];omega
theorem Nu (p:Option Addr)(c:Nat)(fv:Value)(w:World):Calls Tryz.prog 219 #[.slice p 0 c,fv] w λ e w'=>e = .returned (.slice p 0 c)/\w'=w:=by
 go_enter Tryz.func219,Tryz.ntmps219
 go_wp2_with fail
 go_ret
 exact⟨rfl,rfl⟩
theorem distinct_any {w:World}{base c n:Nat}{A:Option Addr}{gs:List Fm}{sl:List (Option Addr×Nat)}(h:bT w base A c gs sl)(hn:n=gs.length)(hs:∀f,f∈gs->f.size<=1000000)(hlen:gs.length<=1000000)(hb:base<=w.heap.size) :
  Calls Tryz.prog 205 #[.slice A n c,.func (.func 16) #[] #[]] w λ e w' =>
   ∃sl',e = .returned (.slice A (uF gs).length c)/\bT w' base A c (uF gs) sl'/\aH (λ x=>(Value.slice A n c).ownBlock=some x) w w':=by
 subst hn;have hmf:∀(fn:Fn) (first cap:Array Value) (w:World),(Instr.makeFunc fn first cap).run Tryz.prog w = .ok (.func fn first cap) w := λ _ _ _ _=>rfl;have HR:=hid h;have HS:=hid hs;clear hs
 go_enter Tryz.func205,Tryz.ntmps205
 go_upto_region 1 with(fail)
 refine aC λ W hW=>?_;have HB:=hid (show Below w.heap.size w W by rw[hW];go_grown);have hc0:W.cell? ⟨w.heap.size,0,none⟩=some (.func (.func 16) #[] #[]):=by rw[hW];exact aj (at_new _ _ _ rfl) (i:=0) rfl
 have hwl:w.heap.size<W.heap.size:=by rw[hW];simp
 have HRW:=hid (h.eu (aH.aS (V := λ _=>False) HB.out) λ _ h=>h.elim);clear hW h
 rcases gs with _|⟨x,gs⟩
 ·obtain⟨p,c2,hv⟩:∃p c2,A=p/\c=c2:=⟨_,_,rfl,rfl⟩
  obtain⟨rfl,rfl⟩:=hv;have HL:=hid HRW.out;simp only[List.length_nil];go_wp2_with (first|(go_at_call 218;refine(LD _ _ _ _).mono ?_;rintro e w9 ⟨rfl,Az⟩;rw[Az];clear Az)|(go_at_call 219;refine(Nu _ _ _ _).mono ?_;rintro e w9 ⟨rfl,Az⟩;rw[Az];clear Az))
  go_ret
  exact⟨sl,rfl,HL.out,aH.aS HB.out⟩
 ·obtain⟨g,rfl,hge⟩:=kW HRW.out.own (by simp)
  have hgl:=(HRW.out.ge rfl).2;have hgw:g<w.heap.size:=(HR.out.ge rfl).2;have HSO:=hid (LC HRW.out rfl HS.out hlen);go_wp2_with (first|(go_at_call 218;refine HSO.out.mono ?_;rintro e w9 ⟨rfl,gs',sl',hperm,hsort,hrow,qgj⟩;have Hr:=(World.cell?_of_block (a:=⟨w.heap.size,0,none⟩) (qgj.block w.heap.size hwl (by omega))).trans hc0;have hlp:=hperm.length_eq;have hco:=Ns hrow hlp.symm (λ f hf=>HS.out f (hperm.mem_iff.1 hf)) (by omega) Hr (by omega))|(go_at_call 219;refine hco.mono ?_;rintro e w10 ⟨rfl,⟨sl2,hrow2⟩,qgk⟩))
  go_ret
  have hset:BU gs'=uF (x :: gs):=(Yy hsort).set λ z=>by rw[Yz,hperm.mem_iff]
  rw[hset]at hrow2⊢;exact⟨sl2,rfl,hrow2,(aH.aS HB.out).trans' (qgj.trans qgk) λ k hk h=>by have:k=g:=h;rw[this];rfl⟩
end Go.Proofs.YtdpbgcmfeajigaaGreatDoor
