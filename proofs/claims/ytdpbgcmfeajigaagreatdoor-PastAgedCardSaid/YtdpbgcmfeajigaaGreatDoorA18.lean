/-
  Parts of a proof: HU HV HW LA LB HX.
-/
import Derived.Test.YtdpbgcmfeajigaaGreatDoorA17
set_option linter.unusedSimpArgs false
set_option linter.unusedVariables false
set_option maxHeartbeats 8000000
set_option maxRecDepth 100000
namespace Go.Proofs.YtdpbgcmfeajigaaGreatDoor
def O9 (op:Int):Int:=if op=6 then 2 else 1
def JU (op:Int):Int:=if op=6 then 1 else 2
def qX (op:Int)(x:Fm):List Fm:=if x.op=op then x.args else if x.op=O9 op then []else [x]
def fF (op:Int)(l:List Fm):List Fm:=l.flatMap (qX op)
def Bo (op:Int)(s:List Fm):Fm:=if Ov s then kV (JU op) []else match s with
 | []=>kV (O9 op) []
 | [x]=>x
 | s=>kV op s
def qg (op:Int)(l:List Fm):Fm:=if l.any (λ x=>decide (x.op=JU op))then kV (JU op) []else Bo op (uF (fF op l))
theorem Q5 (op:Int)(l:List Fm){i:Nat}(hi:i<l.length):fF op (l.take (i+1))=fF op (l.take i)++qX op (l.getD i default):=by
 unfold fF;rw[bP l default hi,List.flatMap_append];simp
theorem SB (op:Int)(x:Fm):∀f,f∈qX op x->f.size<=x.size:=by
 intro f hf;unfold qX at hf
 split at hf
 ·have:=gq hf
  have:=Fm.size_eq x;omega
 ·split at hf
  ·cases hf
  ·rw[List.mem_singleton]at hf
   rw[hf];exact Nat.le_refl _
theorem Ws (op:Int)(x:Fm):(qX op x).length<=x.size:=by
 unfold qX;have h1:=ji x.args;have h2:=Fm.size_eq x
 split
 ·omega
 ·split
  ·simp
  ·simp;omega
theorem ug (op:Int):∀l:List Fm,(fF op l).length<=sizes l
 | []=>Nat.le_refl _
 | x :: l=>by
  have:=ug op l;have h:=Ws op x;unfold fF at this⊢;rw[List.flatMap_cons,List.length_append];simp only[sizes];omega
theorem QZ (op:Int)(l:List Fm):∀f,f∈fF op l->f.size<=sizes l:=by
 intro f hf;unfold fF at hf;rw[List.mem_flatMap]at hf;obtain⟨x,hx,hf⟩:=hf;have:=SB op x f hf;have:=gq hx;omega
end Go.Proofs.YtdpbgcmfeajigaaGreatDoor
namespace Go.Proofs.YtdpbgcmfeajigaaGreatDoor
open Go.RowKit Go.Shelf
attribute [local go_sem] ak jR
def Xu (x:Fm×Bool):Bool:=decide (x.1.op≠0)
theorem bZ.avoid {w:World}{D:Dom}{l:List Fm}{A:Option Addr}{c r:Nat}(h:bZ w D l A c)(hr:OB w r 0 ⟨#[]⟩ 0 0 none 0 0)(hn:∀f,f∈l->∃ins,allI Xu ins f):bZ w (λ k=>D k/\k≠r) l A c:=by
 induction h with
 | mk l A c sl len cells arg ih =>
  refine .mk l A c sl len ⟨cells.1,λ h0=>?_⟩ λ i hi=>ih i hi λ g hg=>?_
  ·obtain⟨b,o,e,hb,hl,hc⟩:=cells.2 h0
   refine⟨b,o,e,⟨hb,?_⟩,hl,hc⟩;rintro rfl;have c0:=hc 0 (.int .i64 (l.getD 0 default).op) (by have:=lu len (k:=0) (j:=0) h0 (by omega);simpa[fH]using this);have c4:=hc 4 (.slice (sl.getD 0 (none,0)).1 (l.getD 0 default).args.length (sl.getD 0 (none,0)).2) (by have:=lu len (k:=0) (j:=4) h0 (by omega);simpa[fH]using this)
   have ho:o=0:=by
    unfold OB at hr;simp only[World.cell?,hr]at c4
    rcases o with _|o
    ·rfl
    ·simp at c4
   subst ho;have e0:=hr.cells.1;rw[Nat.zero_add,e0]at c0
   injection c0 with c0
   injection c0 with _ c0
   obtain⟨ins,ha⟩:=hn (l.getD 0 default) (fV h0);have:=(dL.1 ha).1;unfold Xu at this;rw[<-c0]at this;simp at this
  ·obtain⟨ins,ha⟩:=hn (l.getD i default) (fV hi)
   exact⟨_,(dL.1 ha).2 g hg⟩
theorem bZ.over {w w':World}{base b c:Nat}{l:List Fm}{A:Option Addr}(h:bZ w (λ k=>Nw base w k/\k≠b) l A c)(hc:aH (λ x=>x=b) w w'):bZ w' (Nw base w') l A c:=by
 have hk:Keeps (λ k=>Nw base w k/\k≠b) w w':=hc.keeps λ k _ hk hv=>hk.2 hv;exact(h.keep hk).mono λ k hk' _=>⟨hk'.1.1,hk'.1.2.of_eq (hk.block k hk' hk'.1.2.lt)⟩
theorem bZ.clip {w:World}{D:Dom}{c:Nat}{l:List Fm}{A:Option Addr}(h:bZ w D l A c):bZ w D l A l.length:=by
 obtain⟨sl,h1,h2,h3⟩:=h.out;have:=h2.1;exact .mk l A _ sl h1 ⟨⟨this.1,this.2.1,Nat.le_refl _,by omega⟩,h2.2⟩ h3
theorem bT.first {w:World}{base g c:Nat}{x:Fm}{gs:List Fm}{sl:List (Option Addr×Nat)}(h:bT w base (some ⟨g,0,none⟩) c (x :: gs) sl):∃A' c',g<w.heap.size /\
  w.cell? ⟨g,0,none⟩=some (.int .i64 x.op)/\w.cell? ⟨g,1,none⟩=some (.string x.name)/\w.cell? ⟨g,2,none⟩=some (.int .i64 x.val)/\w.cell? ⟨g,3,none⟩=some (.int .i64 x.bound)/\w.cell? ⟨g,4,none⟩=some (.slice A' x.args.length c') /\
  bZ w (Nw base w) x.args A' c':=by
 obtain⟨A',c',f,hf,hs,q0,q1,q2,q3,q4,_,_,_,_,_,hl,ha⟩:=h.get (i:=0) (by simp);have hf:=hf.out;have:x=f:=by simpa using hf
 subst this;refine⟨A',c',hl,?_,?_,?_,?_,?_,ha.mono λ k hk _=>hk.1⟩
 ·simpa using q0
 ·simpa using q1
 ·simpa using q2
 ·simpa using q3
 ·simpa using q4
theorem NV {w:World}{base c n:Nat}{A:Option Addr}{l:List Fm}{op:Int}(h:bZ w (Nw base w) l A c)(hn:n=l.length)(hop:op=5\/op=6)(hb:base<=w.heap.size)(hsz:sizes l<=1000000)(h4:∀f,f∈fF op l->f.op=4->0<f.args.length)(hnz:∀f,f∈fF op l->∃ins,allI Xu ins f) :
  Calls Tryz.prog 153 #[.int .i64 op,.slice A n c] w λ e w'=>∃v,e = .returned v/\bI w' (Nw base w') v (qg op l)/\Below w.heap.size w w':=by
 subst hn;obtain⟨i0,hti,hz0,hz1,hz2⟩:=info_parts je;have HL:=hid h;have H4:=hid h4;have HNZ:=hid hnz;have hal:=h.len.1;clear h h4 hnz
 go_enter Tryz.func153,Tryz.ntmps153
 go_upto_region 1 with(fail)
 refine aC λ W hW=>?_;have HB:=hid (show Below w.heap.size w W by rw[hW];go_grown);have HR:=hid (show OB W w.heap.size 0 ⟨#[]⟩ 0 0 none 0 0 by rw[hW];exact at_new _ _ _ rfl);clear hW;go_upto_region 2 with(fail)
 rename_i K4 hK4 K3 hK3
 refine kF K4 [5,6,10,11,12,13] (λ us W'=>us 5 = .int .i64 (O9 op)/\us 6 = .int .i64 (JU op)/\W'=W) ?_ ?_
 rotate_left
 ·intro gK
  have kH:=hid gK;clear gK hK4
  rcases hop with rfl|rfl
  ·go_wp2_with fail
   refine aO kH.out ⟨rfl,rfl,rfl⟩ ?_
   kernel_rfl
  ·go_wp2_with fail
   refine aO kH.out ⟨rfl,rfl,rfl⟩ ?_
   kernel_rfl
 ·rintro us W1 ⟨hu5,hu6,rfl⟩
  apply hK4;simp only[jL,Act.put,List.setIfInBounds_toArray,List.set_cons_zero,List.set_cons_succ];rw[hu5,hu6];clear hK4 hK3 K4 K3;obtain⟨uz,huz⟩:∃uz,uz=O9 op:=⟨_,rfl⟩;obtain⟨zz,hzz⟩:∃zz,zz=JU op:=⟨_,rfl⟩
  have hd:op≠zz/\op≠uz/\uz≠zz:=by rcases hop with rfl|rfl <;> rw[huz,hzz] <;> decide
  rw[<-huz,<-hzz];have HU:=hid huz;have HZ:=hid hzz;clear huz hzz;have sW:=hid (HL.out.mono (E := λ k=>Nw base w k/\k<w.heap.size) λ k hk hl=>⟨hk,hl⟩);go_wp2_with fail
  go_loopw [7,16] (λ q r wr=>∃(i:Nat) (A2:Option Addr) (c2:Nat) (sl:List (Option Addr×Nat)),i<=l.length/\r = .int .i64 (i:Int)/\q = .slice A2 (fF op (l.take i)).length c2/\bT wr base A2 c2 (fF op (l.take i)) sl/\Below W1.heap.size W1 wr /\
   (∀k,(Value.slice A2 (fF op (l.take i)).length c2).ownBlock=some k->W1.heap.size<=k)/\(∀k,k<i->(l.getD k default).op≠zz)) (λ _ r _=>l.length-(intOf r).toNat)
  case atStart=>exact⟨0,none,0,[],Nat.zero_le _,rfl,rfl,bT.nil _ _,Below.refl _ _,λ k h=>(by change (none:Option Nat)=some k at h;cases h),λ k h=>absurd h (Nat.not_lt_zero _)⟩
  case round =>
   obtain⟨i,A2,c2,sl,hi,rfl,rfl,hr,hbl,hown,hall⟩:=hrel;have HRO:=hid hr;have bH:=hid hbl;have HOWN:=hid hown;have iY:=hid hall;have vO:=hid (HB.out.trans (hbl.mono HB.out.size));have HLr:=hid (sW.out.keep (Keeps.of_below vO.out λ _ h=>h.2));clear hr hbl hown hall
   by_cases hlt:i<l.length
   ·have hii:(i:Int)<l.length:=by omega
    obtain⟨b1,o1,A',c',f,rfl,HX,hf⟩:=HLr.out.get hlt;have HF:=hid hf;have mZ:=hid HX.out;obtain⟨q1,q2,p0,p1,p2,p3,p4,q3⟩:=hf;clear q1 q3 HX;go_upto_region 8 with(fail)
    refine aC λ W8 uV=>?_;have xJ:=hid (show Below wr.heap.size wr W8 by rw[uV];exact(Below.refl _ _).alloc (Nat.le_refl _) _);have HE:=hid (show OB W8 wr.heap.size f.op f.name f.val f.bound A' f.args.length c' by rw[uV];exact at_new _ _ _ rfl);have XZ:=hid (show bT W8 base A2 c2 (fF op (l.take i)) sl by rw[uV];exact HRO.out.alloc _);obtain⟨x0,x1,x2,x3,x4,xl⟩:=HE.out.cells;clear uV p0 p1 p2 p3 p4 q2
    rename_i K15 KG K9 hK9
    trace "NAMES"
    have rO:=hid (Q5 op l hlt);have wH:=hid (show(fF op (l.take (i+1))).length<=1000000 from Nat.le_trans (ug op _) (Nat.le_trans (vJ l (i+1)) hsz));refine kF K15 (7 :: List.range' 20 21) (λ us W'=>∃A3 c3 sl3,us 7 = .slice A3 (fF op (l.take (i+1))).length c3/\bT W' base A3 c3 (fF op (l.take (i+1))) sl3/\Below W1.heap.size W1 W'/\(∀k,(Value.slice A3 (fF op (l.take (i+1))).length c3).ownBlock=some k->W1.heap.size<=k)/\f.op≠zz) ?_ ?_
    ·rintro us2 W15 ⟨A3,c3,sl3,hu7,hr3,hb3,ho3,hz3⟩
     apply KG;simp only[jL,List.range',List.range'_succ,Act.put,List.setIfInBounds_toArray,List.set_cons_zero,List.set_cons_succ];rw[hu7];clear KG hK9 K15 K9 x0 x1 x2 x3 x4 xl
     have qeP:=hid (show∀k,k<i+1->(l.getD k default).op≠zz from λ k hk=>by
      rcases Nat.lt_succ_iff_lt_or_eq.1 hk with h|h
      ·exact iY.out k h
      ·rw[h,mZ.out];exact hz3)
     go_wp2_with fail
     go_roundw
     case rel=>exact⟨i+1,A3,c3,sl3,by omega,by go_num,rfl,hr3,hb3,ho3,qeP.out⟩
     case measure=>simp[intOf];omega
    ·intro gK
     have kH:=hid gK;clear gK KG;have hnl:(fF op (l.take i)).length<=1000000:=Nat.le_trans (ug op _) (Nat.le_trans (vJ l i) hsz);have hba:base<=W8.heap.size:=by have:=vO.out.size;have:=xJ.out.size;omega
     by_cases e1:f.op=op
     ·have d1:(f.op==op)=true:=by rw[e1];simp
      have HPZ:=hid (show qX op f=f.args by unfold qX;rw[if_pos e1]);have hne:f.op≠zz:=by rw[e1];exact hd.1
      have wL:=hid hne;have HFA:=hid (HF.out.args.keep (Keeps.of_below xJ.out λ k hk=>Nat.lt_of_lt_of_le hk.2 vO.out.size));obtain⟨slx,hlx,hcx,hax⟩:=HFA.out.out;have Pv:=hid hax;have HLX:=hid hlx
      have hfl:f.args.length<=1000000:=by
       have h1:=ji f.args;have h2:=Fm.size_eq f;have h3:=gq (show f∈l by have:=mZ.out;rw[<-this];exact fV hlt);omega
      have hone:∀u∈bQ f.args slx,u.oneCell'=true := λ u hu=>by
       unfold bQ at hu;obtain⟨p,_,hp⟩:=List.mem_flatMap.1 hu;simp[fH]at hp
       rcases hp with rfl|rfl|rfl|rfl|rfl <;> rfl
      clear e1 hax hlx hne;go_wp2_with (at_builtin;go_must (refine iK _ rfl (.tmp 29) (.tmp 31) 22 rfl base 24 i0 _ 5 64 Tryz.underlying22 hti hz0 hz1 hz2 rfl (by omega) (.slice A2 (fF op (l.take i)).length c2) (fF op (l.take i)).length _ rfl XZ.out.own _ A' f.args.length c' _ rfl hcx hone (by omega) (dJ (by omega)) hba ?_);intro A5 c5 w5 hown5 hg5 Em)
      refine aO kH.out ?_ ?_
      ·rw[rO.out,mZ.out,HPZ.out]
       have hms:∀k,k<f.args.length->bZ W8 (λ x=>Nw base W8 x/\(Value.slice A2 (fF op (l.take i)).length c2).ownBlock≠some x) (f.args.getD k default).args (slx.getD k (none,0)).1 (slx.getD k (none,0)).2 := λ k hk=>(Pv.out k hk).mono λ x hx _=>⟨⟨hx.1.1,hx.1.2.of_eq ((vO.out.trans (xJ.out.mono vO.out.size)).block x hx.2)⟩,λ e=>by have:=HOWN.out x e;have:=HB.out.size;omega⟩;refine⟨A5,c5,sl++slx,by rw[List.length_append];rfl,XZ.out.app hg5 (by rw[List.length_append]) hown5 Em HLX.out hms,Below.grown (bH.out.trans (xJ.out.mono bH.out.size)) hg5 (Nat.le_trans bH.out.size xJ.out.size) (λ k hk=>HOWN.out k hk),λ k hk=>?_,wL.out⟩;rw[List.length_append]at hk
       rcases Em with h|h
       ·exact HOWN.out k (h.symm.trans hk)
       ·have:=h.symm.trans hk
        injection this with this
        rw[<-this];exact Nat.le_trans bH.out.size xJ.out.size
      ·kernel_rfl
     ·have d1:(f.op==op)=false:=ay e1
      by_cases e2:f.op=zz
      ·have d2:(f.op==zz)=true:=by rw[e2];simp
       have HJ:=hid (show qg op l=kV zz []by
        unfold qg;rw[HZ.out,if_pos];rw[List.any_eq_true];refine⟨f,by have:=mZ.out;rw[<-this];exact fV hlt,?_⟩
        rw[<-HZ.out];exact decide_eq_true e2)
       have hr:=(HR.out.below (bH.out.mono (Nat.le_refl _))).below xJ.out;obtain⟨r0,r1,r2,r3,r4,rl⟩:=hr.cells;have p0:=hr.free 0;have p1:=hr.free 1;have p2:=hr.free 2;have p3:=hr.free 3;have p4:=hr.free 4;clear e1 e2;go_wp2_with fail
       refine aK λ WE fD=>?_;have jl:OB WE w.heap.size zz ⟨#[]⟩ 0 0 none 0 0:=by rw[fD];exact bF hr
       have mO:Below w.heap.size w WE:=by rw[fD];exact((((((vO.out.trans (xJ.out.mono vO.out.size))).setCell (Nat.le_refl _) _).setCell (Nat.le_refl _) _).setCell (Nat.le_refl _) _).setCell (Nat.le_refl _) _).setCell (Nat.le_refl _) _
       obtain⟨y0,y1,y2,y3,y4,yl⟩:=jl.cells;clear fD r0 r1 r2 r3 r4 p0 p1 p2 p3 p4;rw[HJ.out];exact bodyPost_ret (v := .agg #[.int .i64 zz,.string ⟨#[]⟩,.int .i64 0,.int .i64 0,.slice none 0 0]) (by simp[results,Tryz.results153,go_sem,y0,y1,y2,y3,y4]) rfl ⟨_,rfl,⟨none,0,rfl,bZ.nil _ _ _ (by omega)⟩,mO⟩
      ·have d2:(f.op==zz)=false:=ay e2
       have wL:=hid e2
       by_cases e3:f.op=uz
       ·have d3:(f.op==uz)=true:=by rw[e3];simp
        have HPZ:=hid (show qX op f = []by unfold qX;rw[if_neg e1,if_pos (by rw[e3];exact HU.out)]);clear e1 e2 e3;go_wp2_with fail
        refine aO kH.out ?_ ?_
        ·rw[rO.out,mZ.out,HPZ.out,List.append_nil]
         exact⟨A2,c2,sl,rfl,XZ.out,bH.out.trans (xJ.out.mono bH.out.size),HOWN.out,wL.out⟩
        ·kernel_rfl
       ·have d3:(f.op==uz)=false:=ay e3
        have HPZ:=hid (show qX op f = [f]by unfold qX;rw[if_neg e1,if_neg (by rw[<-HU.out];exact e3)])
        have hone:∀u∈fH f (A',c'),u.oneCell'=true := λ u hu=>by
         simp[fH]at hu
         rcases hu with rfl|rfl|rfl|rfl|rfl <;> rfl
        have hba2:base<=W8.heap.size+1:=by omega
        clear e1 e2 e3;go_wp2_with (at_builtin;go_must (refine iK _ rfl (.tmp 22) (.tmp 24) 22 rfl base 24 i0 _ 5 64 Tryz.underlying22 hti hz0 hz1 hz2 rfl (by omega) (.slice A2 (fF op (l.take i)).length c2) (fF op (l.take i)).length _ rfl (XZ.out.alloc _).own _ (some ⟨W8.heap.size,0,none⟩) 1 1 _ rfl (Rd.fresh (D:=aW) rfl trivial rfl (by omega)) hone (by omega) (dJ (by omega)) (by simp;omega) ?_);intro A5 c5 w5 hown5 hg5 Em)
        refine aO kH.out ?_ ?_
        ·rw[rO.out,mZ.out,HPZ.out]
         have hms:∀(ob:Obj) k,k < [f].length->bZ (W8.alloc ob) (λ x=>Nw base (W8.alloc ob) x/\(Value.slice A2 (fF op (l.take i)).length c2).ownBlock≠some x) ([f].getD k default).args ([(A',c')].getD k (none,0)).1 ([(A',c')].getD k (none,0)).2 := λ ob k hk=>by
          cases Nat.lt_one_iff.1 hk;have hka:Keeps (λ k=>Nw base w k/\k<w.heap.size) wr (W8.alloc ob):=Keeps.of_below ((xJ.out.mono (Nat.le_refl _)).alloc xJ.out.size ob) λ k hk=>Nat.lt_of_lt_of_le hk.2 vO.out.size;exact(HF.out.args.keep hka).mono λ x hx _=>⟨⟨hx.1.1,hx.1.2.of_eq (((vO.out.trans (xJ.out.mono vO.out.size)).alloc (Nat.le_trans vO.out.size xJ.out.size) ob).block x hx.2)⟩,λ e=>by have:=HOWN.out x e;have:=HB.out.size;omega⟩
         refine⟨A5,c5,sl ++ [(A',c')],by rw[List.length_append];rfl,(XZ.out.alloc _).app hg5 (by rw[List.length_append];rfl) hown5 Em rfl (hms _),Below.grown ((bH.out.trans (xJ.out.mono bH.out.size)).alloc (Nat.le_trans bH.out.size xJ.out.size) _) hg5 (Nat.le_trans (Nat.le_trans bH.out.size xJ.out.size) (by simp)) (λ k hk=>HOWN.out k hk),λ k hk=>?_,wL.out⟩;rw[List.length_append]at hk
         rcases Em with h|h
         ·exact HOWN.out k (h.symm.trans hk)
         ·have:=h.symm.trans hk
          injection this with this
          have:=bH.out.size;have:=xJ.out.size
          simp at *
          omega
        ·kernel_rfl
   ·have hii:¬(i:Int)<l.length:=by omega
    have hil:i=l.length:=by omega
    have htk:l.take i=l:=by rw[hil];exact List.take_length
    rw[htk]at HRO HOWN⊢;have hfl:(fF op l).length<=1000000:=Nat.le_trans (ug op l) hsz;have hfs:=hid (λ f hf=>Nat.le_trans (QZ op l f hf) hsz:∀f,f∈fF op l->f.size<=1000000);have hbr:base<=wr.heap.size:=Nat.le_trans hb vO.out.size;have HD:=hid (distinct_any HRO.out rfl hfs.out hfl hbr);have hs9:=hid (λ f hf=>hfs.out f ((uG _ f).1 hf):∀f,f∈uF (fF op l)->f.size<=1000000);have h49:=hid (λ f hf=>H4.out f ((uG _ f).1 hf):∀f,f∈uF (fF op l)->f.op=4->0<f.args.length);have hl9:(uF (fF op l)).length<=1000000:=Nat.le_trans (OU _) hfl;have hso:=hid (GL (fF op l)).sort;have hwW:w.heap.size<=W1.heap.size:=HB.out.size;obtain⟨S,hS⟩:∃S,S=uF (fF op l):=⟨_,rfl⟩;have Ez:=hid hS;rw[<-hS]at hs9 h49 hl9 hso
    have HJ:=hid (show qg op l=Bo op S by
     unfold qg;rw[if_neg,hS];rw[List.any_eq_true];rintro⟨f,hf,hz⟩;obtain⟨k,hk,e⟩:=List.getElem_of_mem hf;refine iY.out k (by omega) ?_;have e2:l.getD k default=f:=by rw[<-e];simp[List.getD_eq_getElem?_getD,List.getElem?_eq_getElem hk]
     rw[e2,HZ.out]
     exact of_decide_eq_true hz)
    clear hS
    by_cases ho:Ov S=true
    ·have HJ2:=hid (show Bo op S=kV zz []by unfold Bo;rw[if_pos ho,HZ.out])
     go_wp2_with (first|(go_at_call 205;refine HD.out.mono ?_;rintro e w9 ⟨sl9,rfl,qQ,FT⟩;have rJ:=hid (bH.out.trans (FT.below (λ b hb h=>by have:=HOWN.out b h;omega) bH.out.size));rw[<-Ez.out]at qQ⊢;have MK:=hid qQ;have HOP:=hid (rY (D:=Nw base w9) _ A2 c2 w9 (qQ.rd (by omega)) hs9.out hl9 (λ b hb=>hb.2) hso.out h49.out))|(go_at_call 206;refine HOP.out.mono ?_;rintro e w10 ⟨rfl,nY⟩;have kN:=hid ((HR.out.below rJ.out).below nY.below);have JY:=hid ((HB.out.trans (rJ.out.mono hwW)).trans (nY.below.mono (Nat.le_trans hwW rJ.out.size)));obtain⟨r0,r1,r2,r3,r4,rl⟩:=kN.out.cells;have p0:=kN.out.free 0;have p1:=kN.out.free 1;have p2:=kN.out.free 2;have p3:=kN.out.free 3;have p4:=kN.out.free 4))
     refine aK λ WE fD=>?_;have jl:OB WE w.heap.size zz ⟨#[]⟩ 0 0 none 0 0:=by rw[fD];exact bF kN.out
     have mO:Below w.heap.size w WE:=by rw[fD];exact(((((JY.out).setCell (Nat.le_refl _) _).setCell (Nat.le_refl _) _).setCell (Nat.le_refl _) _).setCell (Nat.le_refl _) _).setCell (Nat.le_refl _) _
     obtain⟨y0,y1,y2,y3,y4,yl⟩:=jl.cells;clear fD r0 r1 r2 r3 r4 p0 p1 p2 p3 p4;rw[HJ.out,HJ2.out];exact bodyPost_ret (v := .agg #[.int .i64 zz,.string ⟨#[]⟩,.int .i64 0,.int .i64 0,.slice none 0 0]) (by simp[results,Tryz.results153,go_sem,y0,y1,y2,y3,y4]) rfl ⟨_,rfl,⟨none,0,rfl,bZ.nil _ _ _ (by omega)⟩,mO⟩
    ·have hof:Ov S=false:=by simpa using ho
     obtain⟨nS,hnS⟩:∃nS,nS=S.length:=⟨_,rfl⟩
     by_cases hs0:S = []
     ·subst hs0
      have HJ2:=hid (show Bo op []=kV uz []by unfold Bo;rw[if_neg ho,HU.out])
      go_wp2_with (first|(go_at_call 205;refine HD.out.mono ?_;rintro e w9 ⟨sl9,rfl,qQ,FT⟩;have rJ:=hid (bH.out.trans (FT.below (λ b hb h=>by have:=HOWN.out b h;omega) bH.out.size));rw[<-Ez.out]at qQ⊢;have MK:=hid qQ;have HOP:=hid (rY (D:=Nw base w9) _ A2 c2 w9 (qQ.rd (by omega)) hs9.out hl9 (λ b hb=>hb.2) hso.out h49.out))|(go_at_call 206;refine HOP.out.mono ?_;rintro e w10 ⟨rfl,nY⟩;have kN:=hid ((HR.out.below rJ.out).below nY.below);have JY:=hid ((HB.out.trans (rJ.out.mono hwW)).trans (nY.below.mono (Nat.le_trans hwW rJ.out.size)));obtain⟨r0,r1,r2,r3,r4,rl⟩:=kN.out.cells;have p0:=kN.out.free 0;have p1:=kN.out.free 1;have p2:=kN.out.free 2;have p3:=kN.out.free 3;have p4:=kN.out.free 4))
      refine aK λ WE fD=>?_;have jl:OB WE w.heap.size uz ⟨#[]⟩ 0 0 none 0 0:=by rw[fD];exact bF kN.out
      have mO:Below w.heap.size w WE:=by rw[fD];exact(((((JY.out).setCell (Nat.le_refl _) _).setCell (Nat.le_refl _) _).setCell (Nat.le_refl _) _).setCell (Nat.le_refl _) _).setCell (Nat.le_refl _) _
      obtain⟨y0,y1,y2,y3,y4,yl⟩:=jl.cells;clear fD r0 r1 r2 r3 r4 p0 p1 p2 p3 p4;rw[HJ.out,HJ2.out];exact bodyPost_ret (v := .agg #[.int .i64 uz,.string ⟨#[]⟩,.int .i64 0,.int .i64 0,.slice none 0 0]) (by simp[results,Tryz.results153,go_sem,y0,y1,y2,y3,y4]) rfl ⟨_,rfl,⟨none,0,rfl,bZ.nil _ _ _ (by omega)⟩,mO⟩
     ·have hpos:0<(fF op l).length:=by
       rcases hfz:fF op l with _|⟨z,zs⟩
       ·exact absurd (by rw[Ez.out,hfz];rfl) hs0
       ·simp
      obtain⟨g,rfl,hge⟩:=kW HRO.out.own hpos;have HNS:=hid (λ f hf=>HNZ.out f ((uG _ f).1 (by rw[<-Ez.out];exact hf)):∀f,f∈S->∃ins,allI Xu ins f)
      by_cases hs1:∃x,S = [x]
      ·obtain⟨x,rfl⟩:=hs1
       have HJ2:=hid (show Bo op [x]=x by unfold Bo;rw[if_neg ho]);have HX0:=hid (λ g hg=>by obtain⟨ins,ha⟩:=HNS.out x (List.mem_singleton.2 rfl);exact⟨_,(dL.1 ha).2 g hg⟩:∀g,g∈x.args->∃ins,allI Xu ins g);clear hs0
       go_wp2_with (first|(go_at_call 205;refine HD.out.mono ?_;rintro e w9 ⟨sl9,rfl,qQ,FT⟩;have rJ:=hid (bH.out.trans (FT.below (λ b hb h=>by have:=HOWN.out b h;omega) bH.out.size));rw[<-Ez.out]at qQ⊢;have MK:=hid qQ;have HOP:=hid (rY (D:=Nw base w9) _ (some ⟨g,0,none⟩) c2 w9 (qQ.rd (by omega)) hs9.out hl9 (λ b hb=>hb.2) hso.out h49.out))|(go_at_call 206;refine HOP.out.mono ?_;rintro e w10 ⟨rfl,nY⟩;have kN:=hid ((HR.out.below rJ.out).below nY.below);have JY:=hid ((HB.out.trans (rJ.out.mono hwW)).trans (nY.below.mono (Nat.le_trans hwW rJ.out.size)));obtain⟨r0,r1,r2,r3,r4,rl⟩:=kN.out.cells;have p0:=kN.out.free 0;have p1:=kN.out.free 1;have p2:=kN.out.free 2;have p3:=kN.out.free 3;have p4:=kN.out.free 4;have J6:=hid (MK.out.eu (aH.aS (V := λ _=>False) nY.below) λ _ h=>h.elim);obtain⟨A',c',hgl,u0,u1,u2,u3,u4,hxa⟩:=J6.out.first;have HXA:=hid hxa;clear hxa))
       refine aK λ WE fD=>?_;have jl:OB WE w.heap.size x.op x.name x.val x.bound A' x.args.length c':=by rw[fD];exact bF kN.out
       have mO:Below w.heap.size w WE:=by rw[fD];exact(((((JY.out).setCell (Nat.le_refl _) _).setCell (Nat.le_refl _) _).setCell (Nat.le_refl _) _).setCell (Nat.le_refl _) _).setCell (Nat.le_refl _) _
       have haE:bZ WE (Nw base WE) x.args A' c':=(HXA.out.avoid kN.out HX0.out).over (by rw[fD];exact aN _ _ _ _ _ _ _);obtain⟨y0,y1,y2,y3,y4,yl⟩:=jl.cells;clear fD r0 r1 r2 r3 r4 p0 p1 p2 p3 p4;rw[HJ.out,HJ2.out];exact bodyPost_ret (v := .agg #[.int .i64 x.op,.string x.name,.int .i64 x.val,.int .i64 x.bound,.slice A' x.args.length c']) (by simp[results,Tryz.results153,go_sem,y0,y1,y2,y3,y4]) rfl ⟨_,rfl,⟨A',c',rfl,haE⟩,mO⟩
      ·have HJ2:=hid (show Bo op S=kV op S by
        unfold Bo;rw[if_neg ho]
        rcases S with _|⟨x,_|⟨y,S⟩⟩
        ·exact absurd rfl hs0
        ·exact absurd ⟨x,rfl⟩ hs1
        ·rfl)
       have hl2:2<=S.length:=by
        rcases S with _|⟨x,_|⟨y,S⟩⟩
        ·exact absurd rfl hs0
        ·exact absurd ⟨x,rfl⟩ hs1
        ·simp
       have d0:((S.length:Int)==0)=false:=ay (by omega);have d1:((S.length:Int)==1)=false:=ay (by omega);clear hs0 hs1 hnS
       go_wp2_with (first|(go_at_call 205;refine HD.out.mono ?_;rintro e w9 ⟨sl9,rfl,qQ,FT⟩;have rJ:=hid (bH.out.trans (FT.below (λ b hb h=>by have:=HOWN.out b h;omega) bH.out.size));rw[<-Ez.out]at qQ⊢;have MK:=hid qQ;have HOP:=hid (rY (D:=Nw base w9) _ (some ⟨g,0,none⟩) c2 w9 (qQ.rd (by omega)) hs9.out hl9 (λ b hb=>hb.2) hso.out h49.out))|(go_at_call 206;refine HOP.out.mono ?_;rintro e w10 ⟨rfl,nY⟩;have kN:=hid ((HR.out.below rJ.out).below nY.below);have JY:=hid ((HB.out.trans (rJ.out.mono hwW)).trans (nY.below.mono (Nat.le_trans hwW rJ.out.size)));obtain⟨r0,r1,r2,r3,r4,rl⟩:=kN.out.cells;have p0:=kN.out.free 0;have p1:=kN.out.free 1;have p2:=kN.out.free 2;have p3:=kN.out.free 3;have p4:=kN.out.free 4;have J6:=hid (MK.out.eu (aH.aS (V := λ _=>False) nY.below) λ _ h=>h.elim);have hcap:=J6.out.cap)|(go_at_call 208;refine(Yr (some ⟨g,0,none⟩) S.length c2 _ hcap.1 hcap.2).mono ?_;rintro e w11 ⟨rfl,qgJ⟩;rw[qgJ];clear qgJ))
       refine aK λ WE fD=>?_;have jl:OB WE w.heap.size op ⟨#[]⟩ 0 0 (some ⟨g,0,none⟩) S.length S.length:=by rw[fD];exact bF kN.out
       have mO:Below w.heap.size w WE:=by rw[fD];exact(((((JY.out).setCell (Nat.le_refl _) _).setCell (Nat.le_refl _) _).setCell (Nat.le_refl _) _).setCell (Nat.le_refl _) _).setCell (Nat.le_refl _) _
       have haE:bZ WE (Nw base WE) S (some ⟨g,0,none⟩) S.length:=(((J6.out.rd (by omega)).clip).avoid kN.out HNS.out).over (by rw[fD];exact aN _ _ _ _ _ _ _);obtain⟨y0,y1,y2,y3,y4,yl⟩:=jl.cells;clear fD r0 r1 r2 r3 r4 p0 p1 p2 p3 p4;rw[HJ.out,HJ2.out];exact bodyPost_ret (v := .agg #[.int .i64 op,.string ⟨#[]⟩,.int .i64 0,.int .i64 0,.slice (some ⟨g,0,none⟩) S.length S.length]) (by simp[results,Tryz.results153,go_sem,y0,y1,y2,y3,y4]) rfl ⟨_,rfl,⟨_,_,rfl,haE⟩,mO⟩
end Go.Proofs.YtdpbgcmfeajigaaGreatDoor
namespace Go.Proofs.YtdpbgcmfeajigaaGreatDoor
def isC (f:Fm):Bool:=decide (f.op=1) || decide (f.op=2)
def pR (o:Int)(n:ByteArray)(v:Int)(xs:List Fm):Fm :=
 if o=5\/o=6 then qg o xs
 else if o=8/\isC (xs.getD 0 default)=true then xs.getD 0 default
 else if o=9/\(isC (xs.getD 1 default)=true\/(xs.getD 0 default).op=2)then xs.getD 1 default
 else if o=10/\(isC (xs.getD 1 default)=true\/(xs.getD 0 default).op=1)then xs.getD 1 default
 else .mk o n v 0 xs
mutual
def bV:Fm->Fm
 | .mk o n v _ l=>pR o n v (Ag l)
def Ag:List Fm->List Fm
 | [] => []
 | f :: l=>bV f :: Ag l
end
theorem Dy:∀l:List Fm,Ag l=l.map bV
 | []=>by simp only[Ag,List.map_nil]
 | f :: l=>by simp only[Ag,List.map_cons,Dy l]
theorem xW (f:Fm):bV f=pR f.op f.name f.val (f.args.map bV):=by
 cases f;simp only[bV,Dy,Fm.op,Fm.name,Fm.val,Fm.args]
theorem FX (x:Fm):∀l:List Fm,sizes (wV x l)<=x.size+sizes l
 | []=>by simp[wV,sizes]
 | y :: l=>by
  have:=FX x l;unfold wV
  split
  ·simp[sizes]
  ·split
   ·simp[sizes]
   ·simp only[sizes];omega
theorem GN:∀gs:List Fm,sizes (uF gs)<=sizes gs
 | []=>Nat.le_refl _
 | x :: gs=>by
  have:=GN gs;have h:=FX x (uF gs);show sizes (wV x (uF gs))<=_;simp only[sizes];omega
theorem Oy (op:Int)(x:Fm):sizes (qX op x)<=x.size:=by
 have h2:=Fm.size_eq x;unfold qX
 split
 ·omega
 ·split
  ·simp[sizes]
  ·simp[sizes]
theorem DJ (op:Int):∀l:List Fm,sizes (fF op l)<=sizes l
 | []=>Nat.le_refl _
 | x :: l=>by
  have:=DJ op l;have h:=Oy op x;unfold fF at this⊢;rw[List.flatMap_cons,jh];simp only[sizes];omega
theorem CG (o:Int):(kV o []).size=1:=rfl
theorem WW (op:Int)(s:List Fm):(Bo op s).size<=1+sizes s:=by
 unfold Bo
 split
 ·rw[CG];omega
 ·split
  ·rw[CG];omega
  ·simp only[sizes];omega
  ·exact Nat.le_of_eq (Fm.size_eq _)
theorem RH (op:Int)(l:List Fm):(qg op l).size<=1+sizes l:=by
 unfold qg
 split
 ·rw[CG];omega
 ·have h1:=WW op (uF (fF op l))
  have h2:=GN (fF op l);have h3:=DJ op l;omega
theorem Cm (xs:List Fm)(i:Nat):(xs.getD i default).size<=1+sizes xs:=by
 by_cases h:i<xs.length
 ·have:=gq (fV h);omega
 ·have:xs.getD i default=default:=by simp[List.getD,List.getElem?_eq_none (Nat.le_of_not_lt h)]
  rw[this];show(1+0:Nat)<=_;omega
theorem Vd (o:Int)(n:ByteArray)(v:Int)(xs:List Fm):(pR o n v xs).size<=1+sizes xs:=by
 unfold pR
 split
 ·exact RH _ _
 ·split
  ·exact Cm _ _
  ·split
   ·exact Cm _ _
   ·split
    ·exact Cm _ _
    ·exact Nat.le_of_eq (Fm.size_eq _)
theorem qA {g:Fm->Fm}:∀{l:List Fm},(∀x,x∈l->(g x).size<=x.size)->sizes (l.map g)<=sizes l
 | [],_=>Nat.le_refl _
 | x :: l,h=>by
  have h1:=h x (by simp);have h2:=qA (g:=g) (l:=l) λ y hy=>h y (by simp[hy]);simp only[List.map_cons,sizes];omega
theorem Dx (f:Fm):(bV f).size<=f.size:=by
 induction f using Fm.ind with
 | h f ih =>
  rw[xW,Fm.size_eq f];have h1:=Vd f.op f.name f.val (f.args.map bV);have h2:=qA ih;omega
theorem Vq {op:Int}{l:List Fm}{x:Fm}(h:x∈fF op l):∃g,g∈l/\((g.op=op/\x∈g.args)\/x=g):=by
 unfold fF at h;rw[List.mem_flatMap]at h;obtain⟨g,hg,hx⟩:=h;refine⟨g,hg,?_⟩;unfold qX at hx
 split at hx
 ·exact .inl ⟨by assumption,hx⟩
 ·split at hx
  ·cases hx
  ·exact .inr (List.mem_singleton.1 hx)
theorem Fa {q r:Fm×Bool->Bool}(hq:∀x,q x=true->r x=true){ins:Bool}{f:Fm}(h:allI q ins f):allI r ins f:=by
 unfold allI at h⊢;rw[List.all_eq_true]at h⊢;exact λ x hx=>hq x (h x hx)
theorem jE {f:Fm}{ins:Bool}(h:bU (f,ins)=true):(aJ f.op).loose=true/\bW f=true/\((aJ f.op).future=true->ins=false)/\(f.op=4->(f.args.getD 0 default).op=3):=by
 unfold bU Ba at h;simp only[Bool.and_eq_true]at h;obtain⟨⟨⟨h1,h2⟩,h3⟩,h4⟩:=h;refine⟨h1,h2,λ hf=>?_,λ ho=>?_⟩
 ·rw[hf]at h3;simpa using h3
 ·rw[decide_eq_true ho]at h4;simpa using h4
theorem MZ (x:Fm×Bool)(h:bU x=true):Xu x=true:=by
 obtain⟨f,ins⟩:=x;have:=(jo (jE h).2.1).1;unfold Xu;refine decide_eq_true λ e=>?_;have e:f.op=0:=e;rw[e]at this;cases this
theorem Nb {f:Fm}{ins:Bool}(h:allI bU ins f)(h4:f.op=4):0<f.args.length:=vI (jE (dL.1 h).1).2.1 h4
theorem zx {op:Int}{l:List Fm}{ins:Bool}(hop:op=5\/op=6)(h:∀g,g∈l->allI bU ins g):∀x,x∈fF op l->allI bU ins x:=by
 intro x hx;obtain⟨g,hg,hh⟩:=Vq hx
 rcases hh with⟨he,hh⟩|rfl
 ·have:=(dL.1 (h g hg)).2 x hh
  have hp:(aJ g.op).past=false:=by rw[he];rcases hop with rfl|rfl <;> rfl
  rw[hp,Bool.or_false]at this;exact this
 ·exact h _ hg
theorem WV {op:Int}{s:List Fm}{ins:Bool}(hop:op=5\/op=6)(h:∀g,g∈s->allI bU ins g)(hz:s.length<=manyN):allI bU ins (Bo op s):=by
 have hl1:allI bU ins (kV (JU op) []):=BP (by rcases hop with rfl|rfl <;> decide);have hl2:allI bU ins (kV (O9 op) []):=BP (by rcases hop with rfl|rfl <;> decide);unfold Bo
 split
 ·exact hl1
 ·split
  ·exact hl2
  ·exact h _ (by simp)
  ·rename_i s' h0 h1
   have hlen:2<=s.length:=by
    rcases s with _|⟨x,_|⟨y,s⟩⟩
    ·exact absurd rfl h0
    ·exact absurd rfl (h1 x)
    ·simp
   rw[dL];refine⟨?_,λ g hg=>?_⟩
   ·rcases hop with rfl|rfl
    ·exact xP rfl (EI rfl hlen hz (by decide) (by decide) rfl) (λ h=>by cases h) (λ e=>by simp[kV,Fm.op]at e)
    ·exact xP rfl (EI rfl hlen hz (by decide) (by decide) rfl) (λ h=>by cases h) (λ e=>by simp[kV,Fm.op]at e)
   ·have hp:(aJ (kV op s).op).past=false:=by rcases hop with rfl|rfl <;> rfl
    rw[hp,Bool.or_false];exact h g hg
theorem RG {op:Int}{l:List Fm}{ins:Bool}(hop:op=5\/op=6)(h:∀g,g∈l->allI bU ins g)(hz:sizes l<=manyN):allI bU ins (qg op l):=by
 unfold qg
 split
 ·exact BP (by rcases hop with rfl|rfl <;> decide)
 ·refine WV hop (λ g hg=>zx hop h g ((uG _ _).1 hg)) ?_
  have h1:=OU (fF op l);have h2:=ug op l;omega
theorem Dw (f:Fm):∀ins,allI bU ins f->f.size<=manyN->allI bU ins (bV f):=by
 induction f using Fm.ind with
 | h f ih =>
  intro ins h hz;rw[xW];obtain⟨h1,h2⟩:=dL.1 h;obtain⟨p1,p2,p3,p4⟩:=jE h1;obtain⟨s1,s2,s3,s4,s5,s6,s7,s8⟩:=jo p2;have hs:=Fm.size_eq f
  have hcs:∀g,g∈f.args.map bV->allI bU (ins || (aJ f.op).past) g := λ g hg=>by
   obtain⟨x,hx,rfl⟩:=List.mem_map.1 hg;exact ih x hx _ (h2 x hx) (by have:=gq hx;omega)
  have hat:∀i,i<f.args.length->allI bU (ins || (aJ f.op).past) ((f.args.map bV).getD i default) := λ i hi=>hcs _ (fV (by simpa using hi));have hzz:sizes (f.args.map bV)<=sizes f.args:=qA λ x _=>Dx x;unfold pR
  split
  ·rename_i hop
   have hp:(aJ f.op).past=false:=by rcases hop with e|e <;> rw[e] <;> rfl
   rw[hp,Bool.or_false]at hcs;exact RG hop hcs (by omega)
  ·split
   ·rename_i hop
    have hp:(aJ f.op).past=false:=by rw[hop.1];rfl
    rw[hp,Bool.or_false]at hat;rw[hop.1]at s2;exact hat 0 s2
   ·split
    ·rename_i hop
     have hp:(aJ f.op).past=false:=by rw[hop.1];rfl
     rw[hp,Bool.or_false]at hat;rw[hop.1]at s2;exact hat 1 s2
    ·split
     ·rename_i hop
      have hp:(aJ f.op).past=false:=by rw[hop.1];rfl
      rw[hp,Bool.or_false]at hat;rw[hop.1]at s2;exact hat 1 s2
     ·rw[dL]
      refine⟨xP p1 (Lu s1 (by show(aJ f.op).least<=(f.args.map bV).length;rw[List.length_map];exact s2) (by show(f.args.map bV).length<=(aJ f.op).most;rw[List.length_map];exact s3) s4 s5 (Int.le_refl _) (by show(0:Int)<=(aJ f.op).bound;omega) s8) p3 λ h4=>?_,λ g hg=>hcs g hg⟩;have h4:f.op=4:=h4;have hl:=vI p2 h4;show((f.args.map bV).getD 0 default).op=3;have e:(f.args.map bV).getD 0 default=bV (f.args.getD 0 default):=by simp[List.getD,hl]
      have h3:=p4 h4;rw[e,xW,h3];rfl
theorem Uo {n:Nat}(h:n<=1000000):n<=manyN:=by unfold manyN;omega

theorem iI {f:Fm}(h:bf f=true):f.size<=400/\f.depth<=60/\allI bU false f:=by
 unfold bf at h;rw[Bool.and_eq_true,gJ]at h;exact⟨by omega,by omega,h.2⟩
theorem N7 {f:Fm}(h1:f.size<=400)(h2:f.depth<=60)(h3:allI bU false f):bf f=true:=by
 unfold bf;rw[Bool.and_eq_true,gJ];exact⟨⟨by omega,by omega⟩,h3⟩
theorem RN {f:Fm}(h:fU f=true):f.size<=60/\f.depth<=20/\allI bU false f:=by
 unfold fU at h;rw[Bool.and_eq_true,gJ]at h;exact⟨by omega,by omega,h.2⟩
end Go.Proofs.YtdpbgcmfeajigaaGreatDoor
namespace Go.Proofs.YtdpbgcmfeajigaaGreatDoor
open Go.RowKit Go.Shelf
attribute [local go_sem] ak jR run_store_func
def qf6 (n:Nat):Obj := .cells (madeCells #[.int .i64 0,.string ⟨#[]⟩,.int .i64 0,.int .i64 0,.slice none 0 0] (n*5)) 24
theorem S9 (n:Nat)(hn:n<=1000000)(w:World):(Instr.makeSlice 22 (.int .i64 (n:Int)) (.int .i64 (n:Int))).run Tryz.prog w = .ok (.slice (some ⟨w.heap.size,0,none⟩) n n) (w.alloc (qf6 n)):=by
 obtain⟨i0,hti,hz0,hz1,hz2⟩:=info_parts je;have hr:=run_make (P:=Tryz.prog) w 22 24 i0 _ Tryz.underlying22 hti hz0 .i64 .i64 (n:Int) (n:Int) (by omega) (by omega) (by rw[hz2];omega) (by omega);rw[hz1,Int.toNat_natCast]at hr;exact hr
theorem QO (n:Nat):(madeCells #[.int .i64 0,.string ⟨#[]⟩,.int .i64 0,.int .i64 0,.slice none 0 0] (n*5)).toList=bQ (List.replicate n dV) (List.replicate n (none,0)):=by
 apply List.ext_getElem?;intro j
 by_cases hj:j<n*5
 ·have hk:j / 5<n:=by omega
  have hm:j % 5<5:=Nat.mod_lt _ (by omega);have e:j=j / 5*5+j % 5:=by omega
  have h1:=lu (L:=List.replicate n dV) (sl:=List.replicate n ((none:Option Addr),0)) (by simp) (k:=j / 5) (j:=j % 5) (by simpa using hk) hm;rw[<-e]at h1;rw[h1];have e1:(List.replicate n dV).getD (j / 5) default=dV:=by simp[List.getD,hk]
  have e2:(List.replicate n ((none:Option Addr),0)).getD (j / 5) (none,0)=(none,0):=by simp[List.getD,hk]
  rw[e1,e2];have e3:j % 5=0\/j % 5=1\/j % 5=2\/j % 5=3\/j % 5=4:=by omega
  rcases e3 with h|h|h|h|h <;> simp[madeCells,hj,h,fH,dV,Fm.op,Fm.name,Fm.val,Fm.bound,Fm.args]
 ·rw[List.getElem?_eq_none (by simpa[madeCells]using hj),List.getElem?_eq_none (by rw[iM (by simp)];simpa using hj)]
theorem YN (w:World)(base n:Nat)(hb:base<=w.heap.size)(hn:n<=1000000):bT (w.alloc (qf6 n)) base (some ⟨w.heap.size,0,none⟩) n (List.replicate n dV) (List.replicate n (none,0)):=by
 refine⟨?_,by simp,λ i hi=>?_⟩
 ·have:=World.ownsRow_lit (base:=base) (e:=24) (size:=5) w (madeCells #[.int .i64 0,.string ⟨#[]⟩,.int .i64 0,.int .i64 0,.slice none 0 0] (n*5)) n hb (dJ (by omega)) (size_madeCells _ _)
  rw[QO]at this;rw[List.length_replicate];exact this
 ·have hi':i<n:=by simpa using hi
  have e1:(List.replicate n dV).getD i default=dV:=by simp[List.getD,hi']
  have e2:(List.replicate n ((none:Option Addr),0)).getD i (none,0)=(none,0):=by simp[List.getD,hi']
  rw[e1,e2];exact bZ.nil _ _ _ (Nat.zero_le _)
def JX (f:Fm):Prop:=∀(D:Dom) (b o:Nat) (A:Option Addr) (c:Nat) (w:World),dU w D b o f A c ->
 Calls Tryz.prog 125 #[.pointer (some ⟨b,o,none⟩)] w λ e w'=>∃v,e = .returned v/\mX (bV f) w v w'
theorem QM {D:Dom}{w:World}{A:Option Addr}{n c:Nat}{l:List Fm}(h:bZ w D l A c)(hn:n=l.length)(hl:l.length<=1000000)(ih:∀g,g∈l->JX g) :
  Calls Tryz.prog 151 #[.slice A n c] w λ e w'=>∃A',e = .returned (.slice A' n n)/\bZ w' (Nw w.heap.size w') (l.map bV) A' n/\Below w.heap.size w w':=by
 subst hn;have hmk:=S9 l.length hl;have HL:=hid h.old;have hcp:=h.len;clear h
 go_enter Tryz.func151,Tryz.ntmps151
 go_upto_region 2 with(fail)
 refine aC λ W hW=>?_;have HB:=hid (show Below w.heap.size w W by rw[hW];go_grown);have HR:=hid (show bT W w.heap.size (some ⟨w.heap.size,0,none⟩) l.length (List.replicate l.length dV) (List.replicate l.length (none,0))by rw[hW];exact YN _ _ _ (Nat.le_refl _) hl);clear hW hmk;go_wp2_with fail
 go_loopw [10] (λ r wr=>∃(i:Nat) (R:List Fm) (sl:List (Option Addr×Nat)),i<=l.length/\r = .int .i64 (i:Int)/\bT wr w.heap.size (some ⟨w.heap.size,0,none⟩) l.length R sl/\R.length=l.length/\R.take i=(l.take i).map bV/\Below w.heap.size w wr) (λ r _=>l.length-(intOf r).toNat)
 case atStart=>exact⟨0,_,_,Nat.zero_le _,rfl,HR.out,by simp,rfl,HB.out⟩
 case round =>
  obtain⟨i,R,sl,hi,rfl,hr,hrl,hpre,hbl⟩:=hrel;have HRR:=hid hr;have pK:=hid hrl;have UU:=hid hpre;have bH:=hid hbl;clear hr hrl hpre hbl
  by_cases hlt:i<l.length
  ·have hii:(i:Int)<l.length:=by omega
   have HLr:=hid (HL.out.keep (Keeps.of_below bH.out λ _ h=>h));obtain⟨b1,o1,A',c',f,rfl,HX,hf⟩:=HLr.out.get hlt;have mZ:=hid HX.out;have aX:=hid (ih f (by have:=mZ.out;rw[<-this];exact fV hlt) _ _ _ _ _ _ hf);obtain⟨_,_,f',_,_,_,_,_,_,_,_,_,_,_,_,_,hgl,_⟩:=HRR.out.get (i:=i) (by have:=pK.out;omega);clear HX hf;go_wp2_with (go_at_call 125;refine aX.out.mono ?_;rintro e w2 ⟨v,rfl,hbel,A2,c2,rfl,ha2⟩;have HR2:=hid (HRR.out.eu (aH.aS (V := λ _=>False) hbel) λ _ h=>h.elim);have HA2:=hid ha2;have HB2:=hid (bH.out.trans (hbel.mono bH.out.size));clear ha2;obtain⟨_,_,f2,_,_,u0,u1,u2,u3,u4,v0,v1,v2,v3,v4,gl2,_⟩:=HR2.out.get (i:=i) (by have:=pK.out;omega))
   go_roundw
   case rel =>
    have hil:i<R.length:=by have:=pK.out;omega
    have hset:=HR2.out.set hil (bV f) A2 c2 (HA2.out.mono λ k hk _=>⟨⟨by have:=hk.1;omega,hk.2⟩,by have:=hk.1;omega⟩);refine⟨i+1,R.set i (bV f),sl.set i (A2,c2),by omega,by go_num,hset,by rw[List.length_set];exact pK.out,?_,?_⟩
    ·rw[bP _ default (by rw[List.length_set];exact hil),rP hil,List.take_set_of_le (Nat.le_refl _),UU.out,bP l default hlt,List.map_append,mZ.out]
     rfl
    ·exact((((HB2.out.setCell (Nat.le_refl _) _).setCell (Nat.le_refl _) _).setCell (Nat.le_refl _) _).setCell (Nat.le_refl _) _).setCell (Nat.le_refl _) _
   case measure=>simp[intOf];omega
  ·have hii:¬(i:Int)<l.length:=by omega
   have hil:i=l.length:=by omega
   have HE:=hid (show R=l.map bV by
    have h1:=UU.out;rw[hil,List.take_length,<-pK.out,List.take_length]at h1
    exact h1)
   go_wp2_with fail
   go_ret
   refine⟨_,rfl,?_,bH.out⟩;rw[<-HE.out];exact HRR.out.rd (by have:=pK.out;omega)
theorem mJ {D:Dom}(xs:List Fm)(A:Option Addr)(n c kb i:Nat)(k:Int)(w:World)(h:bZ w D xs A c)(hn:n=xs.length)(hi:i<xs.length)(hk:k=(i:Int))(hc:w.cell? ⟨kb,0,none⟩=some (.slice A n c))(r:Bool)(hr:isC (xs.getD i default)=r) :
  Calls Tryz.prog 152 #[.int .i64 k,.pointer (some ⟨kb,0,none⟩)] w λ e w'=>e = .returned (.bool r)/\w'=w:=by
 rw[<-hr];clear hr;subst hn hk;have hlen:=h.len;obtain⟨b1,o1,A',c',f,rfl,HX,hf⟩:=h.get hi;have mZ:=hid HX.out;obtain⟨q1,q2,p0,p1,p2,p3,p4,q3⟩:=hf;have hii:(i:Int)<xs.length:=by omega
 clear HX q3 h
 by_cases e1:f.op=1
 ·have d1:(f.op==1)=true:=by rw[e1];rfl
  have HC:=hid (show isC (xs.getD i default)=true by rw[mZ.out];unfold isC;rw[decide_eq_true e1];rfl);clear e1
  go_enter Tryz.func152,Tryz.ntmps152
  go_wp2_with fail
  go_ret
  exact⟨aF HC.out.symm,rfl⟩
 ·have d1:(f.op==1)=false:=ay e1
  by_cases e2:f.op=2
  ·have d2:(f.op==2)=true:=by rw[e2];rfl
   have HC:=hid (show isC (xs.getD i default)=true by rw[mZ.out];unfold isC;rw[decide_eq_true e2,Bool.or_true]);clear e1 e2
   go_enter Tryz.func152,Tryz.ntmps152
   go_wp2_with fail
   go_ret
   exact⟨aF HC.out.symm,rfl⟩
  ·have d2:(f.op==2)=false:=ay e2
   have HC:=hid (show isC (xs.getD i default)=false by rw[mZ.out];unfold isC;rw[decide_eq_false e1,decide_eq_false e2];rfl);clear e1 e2
   go_enter Tryz.func152,Tryz.ntmps152
   go_wp2_with fail
   go_ret
   exact⟨aF HC.out.symm,rfl⟩
end Go.Proofs.YtdpbgcmfeajigaaGreatDoor
