/-
  Parts of a proof: FK FL FM FN FO.
-/
import Derived.RangeFuncNested
import Derived.RangeFuncBound
import Derived.RangeFuncCalls
import Derived.RangeFuncLeaves
import Derived.OwnWalkIn
import Derived.TacticsInMore
import Derived.StillTailTactics
import Derived.Test.YtdpbgcmfeajigaaGreatDoorA05
import Derived.Shelf.Abstract
import Derived.Shelf.AbstractIn
set_option linter.unusedSimpArgs false
set_option linter.unusedVariables false
set_option maxHeartbeats 8000000
set_option maxRecDepth 100000
namespace Go.Proofs.YtdpbgcmfeajigaaGreatDoor
open Go.RowKit
attribute [local go_sem] ak run_store_func
theorem dH.yN {w:World}{k:Nat}{f:Fm}{A:Option Addr}{c:Nat}{D:Dom}(h:dH w k f A c)(hd:D k)(ha:bZ w D f.args A c):dU w D k 0 f A c:=by
 obtain⟨h0,h1,h2,h3,h4,h5⟩:=h.cells;exact⟨hd,h5,h0,h1,h2,h3,h4,ha⟩
structure TM (l:Nat) (L:List (Fm×Bool)) (Z:Dom) (B0 B1:Nat) (J:Nat->World->Prop) (X:World->Prop):Prop where
 z:∀b,Z b->B0<=b/\(b<B1\/B1+5<=b)
 keep:∀k W W',J k W->aH (λ b=>B1<=b/\b<B1+5) W W'->J k W'
 qcG:∀W W',X W->aH (λ b=>B1<=b/\b<B1+5) W W'->X W'
 step:∀k W b o A c,B1+5<=W.heap.size->GF W->J k W->k<L.length->dU W (· < B0) b o (L.getD k default).1 A c ->
  YieldAt Fence.wide 0 Tryz.prog l #[.pointer (some ⟨b,o,none⟩),.bool (L.getD k default).2] W λ e W'=>aH Z W W'/\((e = .returned (.bool true)/\J (k+1) W')\/(e = .returned (.bool false)/\X W'))
def EC (Z:Dom)(J:Nat->World->Prop)(X:World->Prop)(n:Nat)(w:World)(e:Ending)(w':World):Prop :=
 aH Z w w'/\∃r,e = .returned (.bool r)/\(r=true->J n w')/\(r=false->X w')
structure QB (w:World) (l tb yb vb:Nat):Prop where
 y:w.heap[yb]?=some (.cells #[.func (.yield l) #[] #[]] 120 (0,0))
 v:w.heap[vb]?=some (.cells #[.func (.func 95) #[] #[.pointer (some ⟨tb,0,none⟩),.pointer (some ⟨yb,0,none⟩),.pointer (some ⟨vb,0,none⟩)]] 124 (0,0))
theorem QB.eu {w w':World}{l tb yb vb:Nat}{V:Dom}(h:QB w l tb yb vb)(hc:aH V w w')(hy:¬V yb)(hv:¬V vb):QB w' l tb yb vb:=⟨hc.box h.y hy,hc.box h.v hv⟩
theorem GF.eu {w w':World}{V:Dom}(h:GF w)(hc:aH V w w')(hv:¬V 0):GF w' :=
 h.below (B:=1) (hc.below (λ b hb=>by(have:b=0:=by omega);rw[this];exact hv) h.pos) (by omega)
theorem wQ {L:List (Fm×Bool)}{k:Nat}{f:Fm}{ins:Bool}(h:(L.drop k).take f.size=fA ins f):k<L.length/\L.getD k default=(f,ins):=by
 have h1:=congrArg List.length h;rw[qZ,List.length_take,List.length_drop]at h1;have hs:=Fm.size_eq f;have hk:k<L.length:=by omega
 refine⟨hk,?_⟩;have h2:((L.drop k).take f.size)[0]?=(fA ins f)[0]?:=by rw[h]
 rw[su,List.getElem?_take_of_lt (by omega),List.getElem?_drop]at h2;simp at h2;simp[List.getD,h2]
theorem Bg (ins:Bool):∀l m:List Fm,kE ins (l++m)=kE ins l++kE ins m
 | [],m=>rfl
 | f :: l,m=>by simp only[List.cons_append,kE,Bg ins l m,List.append_assoc]
theorem sK {L:List (Fm×Bool)}{k i:Nat}{f g:Fm}{ins:Bool}(h:(L.drop k).take f.size=fA ins f)(hi:i<f.args.length)(hg:f.args.getD i default=g) :
  (L.drop (k+1+sizes (f.args.take i))).take g.size=fA (ins || (aJ f.op).past) g:=by
 have hsz:=Fm.size_eq f
 have h1:f.args=f.args.take i++g :: f.args.drop (i+1):=by
  have e:f.args[i]=g:=by rw[<-hg];simp[List.getD,hi]
  rw[<-e,List.getElem_cons_drop,List.take_append_drop]
 have hss:sizes f.args=sizes (f.args.take i)+(g.size+sizes (f.args.drop (i+1))):=by
  conv=>lhs;rw[h1]
  rw[jh];rfl
 obtain⟨q,hq⟩:∃q,q=(ins || (aJ f.op).past):=⟨_,rfl⟩
 have h2:fA ins f=(f,ins) ::(kE q (f.args.take i)++(fA q g++kE q (f.args.drop (i+1)))):=by
  rw[su,<-hq]
  conv=>lhs;rw[h1]
  rw[Bg];rfl
 rw[h2]at h;have h3:=congrArg (λ X:List (Fm×Bool)=>(X.drop (1+sizes (f.args.take i))).take g.size) h;simp only[List.drop_take,List.take_take,List.drop_drop]at h3;rw[show 1+sizes (f.args.take i)=sizes (f.args.take i)+1 by omega,List.drop_succ_cons]at h3;have h4:(kE q (f.args.take i)).length=sizes (f.args.take i):=CV _ _
 have h5:List.drop (sizes (f.args.take i)) (kE q (f.args.take i)++(fA q g++kE q (f.args.drop (i+1))))=fA q g++kE q (f.args.drop (i+1)):=by
  rw[<-h4,List.drop_left]
 rw[h5,<-qZ q g,List.take_left,qZ]at h3;rw[<-hq,<-h3];rw[Nat.min_eq_left (by omega)]
 congr 2
 omega
theorem visit_any {l:Nat}{L:List (Fm×Bool)}{Z:Dom}{B0 B1:Nat}{J:Nat->World->Prop}{X:World->Prop}(hR:TM l L Z B0 B1 J X)(tb yb vb:Nat)(hy:B1<=yb/\yb<B1+5)(hv:B1<=vb/\vb<B1+5)(hB:0<B0)(f:Fm):∀(ins:Bool) (b o:Nat) (A:Option Addr) (c:Nat) (d k:Nat) (w:World) (hf:dU w (· < B0) b o f A c) (hg:GF w) (hvb:QB w l tb yb vb) (hs:B1+5<=w.heap.size) (hj:J k w) (hl:(L.drop k).take f.size=fA ins f) (hd:d+f.depth<=5000),
  Calls Tryz.prog 95 #[.pointer (some ⟨b,o,none⟩),.bool ins,.int .i64 (d:Int),.pointer (some ⟨tb,0,none⟩),.pointer (some ⟨yb,0,none⟩),.pointer (some ⟨vb,0,none⟩)] w (EC Z J X (k+f.size) w):=by
 refine Fm.induct (P := λ f=>∀(ins:Bool) (b o:Nat) (A:Option Addr) (c:Nat) (d k:Nat) (w:World) (hf:dU w (· < B0) b o f A c) (hg:GF w) (hvb:QB w l tb yb vb) (hs:B1+5<=w.heap.size) (hj:J k w) (hl:(L.drop k).take f.size=fA ins f) (hd:d+f.depth<=5000),
  Calls Tryz.prog 95 #[.pointer (some ⟨b,o,none⟩),.bool ins,.int .i64 (d:Int),.pointer (some ⟨tb,0,none⟩),.pointer (some ⟨yb,0,none⟩),.pointer (some ⟨vb,0,none⟩)] w (EC Z J X (k+f.size) w)) ?_ f
 intro f ih ins b o A c d k w hf hg hvb hs hj hl hd;have HR:=hid hR;have HIH:=hid ih;have jI:=hid (Fm.size_eq f);have HH:=hid hf;have HG:=hid hg;have HV:=hid hvb;have HJ:=hid hj;have HL:=hid hl;have HNY:=hid (show¬Z yb from λ h=>by have:=hR.z _ h;omega);have Hl:=hid (show¬Z vb from λ h=>by have:=hR.z _ h;omega);have HN0:=hid (show¬Z 0 from λ h=>by have:=hR.z _ h;omega);have Ir:Hid (∀b,b<w.heap.size->b<B0->¬Z b):=hid λ b _ h hz=>by have:=hR.z _ hz;omega
 have hal:=hf.args.len.1;obtain⟨hkL,hLk⟩:=wQ hl;have hdep:=Fm.jr f;have hd1:((d:Int)==5000)=false:=ay (by omega);have hd2:d<5000:=by omega
 obtain⟨yf,yt,ya,yb',Ro,Uh⟩:=hR.step k w b o A c hs hg hj hkL (by rw[hLk];exact hf);rw[hLk]at Ro;obtain⟨_,hlw,_,_,_,_,_,_⟩:=hf;have y0:=aj hvb.y (i:=0) rfl;have HR4:=hid Uh;have HD:=hid hd;clear hR ih hg hvb hj hl hkL hLk hdep Uh hd
 go_enter Tryz.func95,Tryz.ntmps95
 go_upto_region 4 with(fail)
 refine(wpIn_wide (n:=1)).1 ?_
 gi_wp2
 refine HR4.out.mono ?_;rintro e w4 ⟨hc4,(⟨rfl,Ug⟩|⟨rfl,YQ⟩)⟩
 rotate_left
 ·have zN:=hid hc4
  have HX4:=hid YQ;clear hc4 YQ y0 Ro
  gi_wp2
  go_wp2_with fail
  go_ret
  exact⟨zN.out,false,rfl,(λ h=>by cases h),λ _=>HX4.out⟩
 ·have zN:=hid hc4
  have HJ4:=hid Ug;obtain⟨_,hl4,c0,c1,c2,c3,c4,_⟩:=HH.out.keep (hc4.keeps Ir.out);have hg4:=HG.out.eu hc4 HN0.out;have hcall:=qO f.op w4 hg4;unfold I8 at hcall;obtain⟨s,hsf⟩:∃s,aJ f.op=s:=⟨_,rfl⟩;rw[hsf]at hcall;have aX:=hid hcall;have HS:=hid hsf;clear hc4 Ug hg4 hcall hsf y0 Ro
  gi_wp2
  go_upto_region 7 with(first|(go_at_call 52;refine aX.out.mono ?_;rintro e w5 ⟨rfl,hb5⟩))
  refine aC λ W hW=>?_;have hbw:Below w4.heap.size w4 W:=by rw[hW];exact hb5.trans ((show Below w5.heap.size w5 _ by go_grown).mono hb5.size)
  have hcs:W.heap[w5.heap.size]?=some (.cells #[.int .i64 s.least,.int .i64 s.most,.int .i64 s.val,.int .i64 s.bound,.bool s.named,.bool s.past,.bool s.future,.bool s.loose] 78 (0,0)):=by rw[hW];exact heap_alloc_new w5 _
  have r5:=aj hcs (i:=5) rfl;have hlW:=lt_of_block hcs;have TF:=hid ((zN.out).trans (aH.aS hbw));have HJ7:=hid (HR.out.keep _ _ _ HJ4.out (aH.aS hbw));obtain⟨_,hl7,_,_,_,_,c4,_⟩:=HH.out.keep (TF.out.keeps Ir.out);obtain⟨ps,hps⟩:∃ps,s.past=ps:=⟨_,rfl⟩;rw[hps]at r5;have HPS:=hid (show(aJ f.op).past=ps by rw[HS.out];exact hps);obtain⟨W8,uV⟩:∃W8,W8=W:=⟨_,rfl⟩;have HC8:=hid TF.out;have HJ8:=hid HJ7.out;rw[<-uV]at HC8 HJ8;clear hb5 hW hbw hcs c0 c1 c2 c3 hps hl4;cases ins
  ·have HQ:=hid (show ps=(false || (aJ f.op).past)by rw[HPS.out];rfl)
   subst uV;go_wp2_with fail
   go_loopw [44] (λ q wr=>∃i:Nat,i<=f.args.length/\q = .int .i64 (i:Int)/\aH Z w wr/\J (k+1+sizes (f.args.take i)) wr) (λ q _=>f.args.length-(intOf q).toNat)
   case atStart=>exact⟨0,Nat.zero_le _,rfl,HC8.out,by simpa[sizes]using HJ8.out⟩
   case round =>
    obtain⟨i,hi,rfl,hc,hj⟩:=hrel;have EL:=hid hc;have XJ:=hid hj;obtain⟨_,hlr,_,_,_,_,Xn,ha'⟩:=HH.out.keep (hc.keeps Ir.out);have Pq:=hid ha';have hvr:=HV.out.eu hc HNY.out Hl.out;have zW:=hid hvr;have hgr:=HG.out.eu hc HN0.out;have HGR:=hid hgr;have ML:=hid (Nat.le_trans hs hc.size);clear hc hj ha' hvr hgr
    by_cases uj:i<f.args.length
    ·have hii:(i:Int)<f.args.length:=by omega
     obtain⟨b1,o1,A1,c1,g,rfl,HX,hg⟩:=Pq.out.get uj;have rO:=hid (rE f.args uj);have XL:=hid (sK HL.out uj HX.out);have XI:=hid (HIH.out i uj);have HDG:=hid (tJ uj);rw[HX.out]at rO XI HDG;rw[<-HQ.out]at XL;have f0:=aj zW.out.v (i:=0) rfl;have hwd:IntKind.i64.wrap ((d:Int)+1)=(d:Int)+1:=IntWalk.i64_in _ (by omega)
     have aX:Hid (∀W',aU wr W'->Calls Tryz.prog 95 #[.pointer (some ⟨b1,o1+i*5,none⟩),.bool ps,.int .i64 ((d:Int)+1),.pointer (some ⟨tb,0,none⟩),.pointer (some ⟨yb,0,none⟩),.pointer (some ⟨vb,0,none⟩)] W' λ e W9=>aH Z wr W9/\∃r,e = .returned (.bool r)/\(r=true->J (k+1+sizes (f.args.take (i+1))) W9)/\(r=false->X W9)):=hid λ W' hdw=>by
      have hbw:=hdw.below wr.heap.size;have hcd:aH (λ b=>B1<=b/\b<B1+5) wr W':=aH.aS hbw;rw[show(d:Int)+1=((d+1:Nat):Int)by omega];refine(XI.out ps b1 (o1+i*5) A1 c1 (d+1) (k+1+sizes (f.args.take i)) W' (hg.keep hdw.keeps) (HGR.out.below hbw HGR.out.pos) ⟨(hbw.block _ (lt_of_block zW.out.y)).trans zW.out.y,(hbw.block _ (lt_of_block zW.out.v)).trans zW.out.v⟩ (Nat.le_trans ML.out hbw.size) (HR.out.keep _ _ _ XJ.out hcd) XL.out (by have:=HDG.out;have:=HD.out;omega)).mono ?_;rintro e w' ⟨hc,hx⟩;rw[rO.out,<-Nat.add_assoc];exact⟨(aH.aS (V:=Z) hbw).trans hc,hx⟩
     have aI:Hid (∀W':World,aH Z wr W'->W'.cell? ⟨vb,0,none⟩=some (.func (.func 95) #[] #[.pointer (some ⟨tb,0,none⟩),.pointer (some ⟨yb,0,none⟩),.pointer (some ⟨vb,0,none⟩)])/\W'.cell? ⟨b,o+4,none⟩=some (.slice (some ⟨b1,o1,none⟩) f.args.length c)):=hid λ W' hc =>
      ⟨aj (zW.out.eu hc HNY.out Hl.out).v (i:=0) rfl,(HH.out.keep ((EL.out.trans hc).keeps Ir.out)).c4⟩
     clear hg;have HI1:=hid (show aU wr wr.drew from(aU.refl wr).drew);have HI2:=hid (λ i=>aU.n wr i);go_upto_region 11 with(fail)
     go_region_held3 (λ W':World=>W'.cell? ⟨vb,0,none⟩=some (.func (.func 95) #[] #[.pointer (some ⟨tb,0,none⟩),.pointer (some ⟨yb,0,none⟩),.pointer (some ⟨vb,0,none⟩)])/\W'.cell? ⟨b,o+4,none⟩=some (.slice (some ⟨b1,o1,none⟩) f.args.length c))
      (first|(with_reducible exact aI.out _ hI)|(go_keep;done))
      ((go_at_call 95;with_reducible refine(aX.out _ (by first|exact HI1.out|exact HI2.out _)).mono ?_;rintro e W9 ⟨hI,r,rfl,hJ,hX⟩))
     all_goals
      have Qo:=hid hI;have Xg:=hid hJ;have HCX:=hid hX;clear hI hJ hX f0 Xn;cases r
      ·go_wp2_with fail
       go_ret
       exact⟨EL.out.trans Qo.out,false,rfl,(λ h=>by cases h),λ _=>HCX.out trivial⟩
      ·go_wp2_with fail
       go_roundw
       case rel=>exact⟨i+1,by omega,by go_num,EL.out.trans Qo.out,Xg.out rfl⟩
       case measure=>simp[intOf];omega
    ·have hie:f.args.take i=f.args:=List.take_of_length_le (by omega)
     have hnl:¬(i:Int)<f.args.length:=by omega
     have Xi:=hid (show J (k+f.size) wr by have:=XJ.out;rw[hie]at this;rw[jI.out,<-Nat.add_assoc];exact this);clear hie;go_wp2_with fail
     go_ret
     exact⟨EL.out,true,rfl,(λ _=>Xi.out),λ h=>by cases h⟩
  ·have HQ:=hid (show true=(true || (aJ f.op).past)by rfl)
   subst uV;go_wp2_with fail
   go_loopw [44] (λ q wr=>∃i:Nat,i<=f.args.length/\q = .int .i64 (i:Int)/\aH Z w wr/\J (k+1+sizes (f.args.take i)) wr) (λ q _=>f.args.length-(intOf q).toNat)
   case atStart=>exact⟨0,Nat.zero_le _,rfl,HC8.out,by simpa[sizes]using HJ8.out⟩
   case round =>
    obtain⟨i,hi,rfl,hc,hj⟩:=hrel;have EL:=hid hc;have XJ:=hid hj;obtain⟨_,hlr,_,_,_,_,Xn,ha'⟩:=HH.out.keep (hc.keeps Ir.out);have Pq:=hid ha';have hvr:=HV.out.eu hc HNY.out Hl.out;have zW:=hid hvr;have hgr:=HG.out.eu hc HN0.out;have HGR:=hid hgr;have ML:=hid (Nat.le_trans hs hc.size);clear hc hj ha' hvr hgr
    by_cases uj:i<f.args.length
    ·have hii:(i:Int)<f.args.length:=by omega
     obtain⟨b1,o1,A1,c1,g,rfl,HX,hg⟩:=Pq.out.get uj;have rO:=hid (rE f.args uj);have XL:=hid (sK HL.out uj HX.out);have XI:=hid (HIH.out i uj);have HDG:=hid (tJ uj);rw[HX.out]at rO XI HDG;rw[<-HQ.out]at XL;have f0:=aj zW.out.v (i:=0) rfl;have hwd:IntKind.i64.wrap ((d:Int)+1)=(d:Int)+1:=IntWalk.i64_in _ (by omega)
     have aX:Hid (∀W',aU wr W'->Calls Tryz.prog 95 #[.pointer (some ⟨b1,o1+i*5,none⟩),.bool true,.int .i64 ((d:Int)+1),.pointer (some ⟨tb,0,none⟩),.pointer (some ⟨yb,0,none⟩),.pointer (some ⟨vb,0,none⟩)] W' λ e W9=>aH Z wr W9/\∃r,e = .returned (.bool r)/\(r=true->J (k+1+sizes (f.args.take (i+1))) W9)/\(r=false->X W9)):=hid λ W' hdw=>by
      have hbw:=hdw.below wr.heap.size;have hcd:aH (λ b=>B1<=b/\b<B1+5) wr W':=aH.aS hbw;rw[show(d:Int)+1=((d+1:Nat):Int)by omega];refine(XI.out true b1 (o1+i*5) A1 c1 (d+1) (k+1+sizes (f.args.take i)) W' (hg.keep hdw.keeps) (HGR.out.below hbw HGR.out.pos) ⟨(hbw.block _ (lt_of_block zW.out.y)).trans zW.out.y,(hbw.block _ (lt_of_block zW.out.v)).trans zW.out.v⟩ (Nat.le_trans ML.out hbw.size) (HR.out.keep _ _ _ XJ.out hcd) XL.out (by have:=HDG.out;have:=HD.out;omega)).mono ?_;rintro e w' ⟨hc,hx⟩;rw[rO.out,<-Nat.add_assoc];exact⟨(aH.aS (V:=Z) hbw).trans hc,hx⟩
     have aI:Hid (∀W':World,aH Z wr W'->W'.cell? ⟨vb,0,none⟩=some (.func (.func 95) #[] #[.pointer (some ⟨tb,0,none⟩),.pointer (some ⟨yb,0,none⟩),.pointer (some ⟨vb,0,none⟩)])/\W'.cell? ⟨b,o+4,none⟩=some (.slice (some ⟨b1,o1,none⟩) f.args.length c)):=hid λ W' hc =>
      ⟨aj (zW.out.eu hc HNY.out Hl.out).v (i:=0) rfl,(HH.out.keep ((EL.out.trans hc).keeps Ir.out)).c4⟩
     clear hg;have HI1:=hid (show aU wr wr.drew from(aU.refl wr).drew);have HI2:=hid (λ i=>aU.n wr i);go_upto_region 11 with(fail)
     go_region_held3 (λ W':World=>W'.cell? ⟨vb,0,none⟩=some (.func (.func 95) #[] #[.pointer (some ⟨tb,0,none⟩),.pointer (some ⟨yb,0,none⟩),.pointer (some ⟨vb,0,none⟩)])/\W'.cell? ⟨b,o+4,none⟩=some (.slice (some ⟨b1,o1,none⟩) f.args.length c))
      (first|(with_reducible exact aI.out _ hI)|(go_keep;done))
      ((go_at_call 95;with_reducible refine(aX.out _ (by first|exact HI1.out|exact HI2.out _)).mono ?_;rintro e W9 ⟨hI,r,rfl,hJ,hX⟩))
     all_goals
      have Qo:=hid hI;have Xg:=hid hJ;have HCX:=hid hX;clear hI hJ hX f0 Xn;cases r
      ·go_wp2_with fail
       go_ret
       exact⟨EL.out.trans Qo.out,false,rfl,(λ h=>by cases h),λ _=>HCX.out trivial⟩
      ·go_wp2_with fail
       go_roundw
       case rel=>exact⟨i+1,by omega,by go_num,EL.out.trans Qo.out,Xg.out rfl⟩
       case measure=>simp[intOf];omega
    ·have hie:f.args.take i=f.args:=List.take_of_length_le (by omega)
     have hnl:¬(i:Int)<f.args.length:=by omega
     have Xi:=hid (show J (k+f.size) wr by have:=XJ.out;rw[hie]at this;rw[jI.out,<-Nat.add_assoc];exact this);clear hie;go_wp2_with fail
     go_ret
     exact⟨EL.out,true,rfl,(λ _=>Xi.out),λ h=>by cases h⟩
end Go.Proofs.YtdpbgcmfeajigaaGreatDoor
namespace Go.Proofs.YtdpbgcmfeajigaaGreatDoor
open Go.RowKit
attribute [local go_sem] ak run_store_func
theorem at_new (w:World)(o:Obj)(i:Nat)(h:i=w.heap.size):(w.alloc o).heap[i]?=some o:=by rw[h];exact heap_alloc_new w o
theorem aQ (w:World)(o:Obj)(i:Nat)(h:i<w.heap.size):(w.alloc o).heap[i]?=w.heap[i]?:=Below.heap_alloc _ _ _ h
theorem Sj {l:Nat}{Z:Dom}{B0 B1:Nat}{J:Nat->World->Prop}{X:World->Prop}(f:Fm)(hR:TM l (fA false f) Z B0 B1 J X)(hB:0<B0)(b o pb:Nat)(A:Option Addr)(c:Nat)(w:World)
  (hw:w.heap.size=B1) (hBB:B0<=B1) (hf:dU w (· < B0) b o f A c) (hp:w.cell? ⟨pb,0,none⟩=some (.pointer (some ⟨b,o,none⟩))) (hg:GF w) (hd:f.depth<=5000) (hj:J 0 w) :
  Calls Tryz.prog 94 #[.func (.yield l) #[] #[],.pointer (some ⟨pb,0,none⟩)] w λ e w'=>(∃v,e = .returned v)/\aH Z w w'/\(J f.size w'\/X w'):=by
 subst hw;have HR:=hid hR;have HH:=hid hf;have HG:=hid hg;have HJ:=hid hj;have HD:=hid hd;have hpl:=World.block_lt_of_cell? w _ hp;clear hR hf hg hj hd
 go_enter Tryz.func94,Tryz.ntmps94
 go_upto_region 3 with(fail)
 refine aC λ W hW=>?_;have hbw:Below w.heap.size w W:=by rw[hW];go_grown
 have e0:W.heap[w.heap.size]?=some (.cells #[.func (.yield l) #[] #[]] 120 (0,0)):=by
  rw[hW,aQ _ _ _ (by simp only[World.size_alloc];omega),aQ _ _ _ (by simp only[World.size_alloc];omega),aQ _ _ _ (by simp only[World.size_alloc];omega),at_new _ _ _ rfl]
 have e1:W.heap[w.heap.size+1]?=some (.cells #[.pointer (some ⟨b,o,none⟩),.bool false] 122 (0,0)):=by
  rw[hW,aQ _ _ _ (by simp only[World.size_alloc];omega),aQ _ _ _ (by simp only[World.size_alloc];omega),at_new _ _ _ (by simp only[World.size_alloc])]
 have e2:W.heap[w.heap.size+1+1]?=some (.cells #[.slice (some ⟨w.heap.size+1,0,none⟩) 1 1] 123 (0,0)):=by
  rw[hW,aQ _ _ _ (by simp only[World.size_alloc];omega),at_new _ _ _ (by simp only[World.size_alloc])]
 have e3:W.heap[w.heap.size+1+1+1]?=some (.cells #[.nilFunc] 124 (0,0)):=by
  rw[hW,at_new _ _ _ (by simp only[World.size_alloc])]
 have hws:W.heap.size=w.heap.size+4:=by rw[hW];simp only[World.size_alloc]
 clear hW hp;have z0:=aj e3 (i:=0) rfl;have z1:=aA e3 (i:=0);have mW:=hid e0;have kG:=hid e1;have HE2:=hid e2;have Iq:=hid e3;have aT:=hid hbw;have zk:=hid hws;clear e0 e1 e2 e3 hbw hws;go_upto_region 4 with(fail)
 go_wp2_with fail
 refine aC λ W3 hW=>?_
 have VK:QB W3 l (w.heap.size+1+1) w.heap.size (w.heap.size+1+1+1):=by
  refine⟨?_,?_⟩
  ·rw[hW,Below.heap_setCell _ _ _ _ (by simp only[];omega)];exact mW.out
  ·rw[hW,aB Iq.out];rfl
 have e1:W3.heap[w.heap.size+1]?=some (.cells #[.pointer (some ⟨b,o,none⟩),.bool false] 122 (0,0)):=by
  rw[hW,Below.heap_setCell _ _ _ _ (by simp only[];omega)];exact kG.out
 have e2:W3.heap[w.heap.size+1+1]?=some (.cells #[.slice (some ⟨w.heap.size+1,0,none⟩) 1 1] 123 (0,0)):=by
  rw[hW,Below.heap_setCell _ _ _ _ (by simp only[];omega)];exact HE2.out
 have hb3:Below w.heap.size w W3:=by
  rw[hW];exact aT.out.trans ((aH.set (V := λ k=>k=w.heap.size+1+1+1) (aH.refl _ W) _ _ λ _=>rfl).below (λ b hb=>by omega) aT.out.size)
 have hs3:W3.heap.size=w.heap.size+4:=by rw[hW];simpa using zk.out
 have HV3:=hid VK;have wK:=hid e1;have Qs:=hid e2;have HB3:=hid hb3;have HS3:=hid hs3;clear hW VK e1 e2 hb3 hs3 z0 z1 mW kG HE2 Iq aT zk
 go_loopg [5] 1 (λ gk s5 wr=>(gk=1/\tq W3 wr)\/(gk=0/\wr.heap[w.heap.size+1+1]?=some (.cells #[.slice (some ⟨w.heap.size+1,0,none⟩) 0 1] 123 (0,0))/\aH Z w wr/\J f.size wr))
 case atStart=>exact .inl ⟨rfl,rfl⟩
 case round =>
  rcases hrel with⟨rfl,hw⟩|⟨rfl,hE,hc,hj⟩
  ·obtain rfl:W3=wr:=hw.symm
   have t0:=aj Qs.out (i:=0) rfl;have t1:=aA Qs.out (i:=0);have p0:=aj wK.out (i:=0) rfl;have p1:=aj wK.out (i:=1) rfl;have hl1:=lt_of_block wK.out;have hl2:=lt_of_block Qs.out;go_upto_region 7 with(fail)
   refine aC λ W7 hW=>?_
   have hb7:Below w.heap.size w W7:=by
    rw[hW];exact(HB3.out.trans ((aH.set (V := λ k=>k=w.heap.size+1+1) (aH.refl _ W3) _ _ λ _=>rfl).below (λ b hb=>by omega) HB3.out.size)).alloc (by simp;have:=HS3.out;omega) _
   have hc7:aH (λ k=>k=w.heap.size+1+1) W3 W7:=by
    rw[hW];exact(aH.set (V := λ k=>k=w.heap.size+1+1) (aH.refl _ W3) _ _ λ _=>rfl).alloc _
   have hv7:QB W7 l (w.heap.size+1+1) w.heap.size (w.heap.size+1+1+1):=HV3.out.eu hc7 (by omega) (by omega)
   have ht7:W7.heap[w.heap.size+1+1]?=some (.cells #[.slice (some ⟨w.heap.size+1,0,none⟩) 0 1] 123 (0,0)):=by
    rw[hW,aQ _ _ _ (by simpa using hl2),aB Qs.out];rfl
   have hp7:W7.heap[W3.heap.size]?=some (.cells #[.pointer (some ⟨b,o,none⟩),.bool false] 122 (0,0)):=by
    rw[hW];exact at_new _ _ _ (by simp)
   have hs7:w.heap.size+5<=W7.heap.size:=by rw[hW];simp;have:=HS3.out;omega
   have f0:=aj hv7.v (i:=0) rfl;have u0:=aj hp7 (i:=0) rfl;have u1:=aj hp7 (i:=1) rfl;have hlu:=lt_of_block hp7
   have aX:Hid (Calls Tryz.prog 95 #[.pointer (some ⟨b,o,none⟩),.bool false,.int .i64 0,.pointer (some ⟨w.heap.size+1+1,0,none⟩),.pointer (some ⟨w.heap.size,0,none⟩),.pointer (some ⟨w.heap.size+1+1+1,0,none⟩)] W7 λ e W9=>aH Z W7 W9/\∃r,e = .returned (.bool r)/\(r=true->J (0+f.size) W9)/\(r=false->X W9)) :=
    hid (visit_any HR.out (w.heap.size+1+1) w.heap.size (w.heap.size+1+1+1) (by omega) (by omega) hB f false b o A c 0 0 W7 ((HH.out.keep (Keeps.of_below hb7 λ _ h=>by omega))) (HG.out.below hb7 (by omega)) hv7 hs7 (HR.out.keep _ _ _ HJ.out (aH.aS hb7)) (by rw[List.drop_zero,<-qZ false f,List.take_length]) (by have:=HD.out;omega))
   have HT7:=hid ht7;have zh:=hid hb7;clear hW hb7 hc7 hv7 ht7 hp7 t0 t1 p0 p1 hl1 hl2;go_wp2_with (first|(go_at_call 95;with_reducible refine aX.out.mono ?_;rintro e W9 ⟨hI,(_|_),rfl,hJ,hX⟩))
   ·have Hr:=(aH.aS (V:=Z) zh.out).trans hI
    exact bodyPost_ret (results_none rfl _ _ _) rfl ⟨⟨_,rfl⟩,Hr,.inr (hX trivial)⟩
   ·have HC9:=hid ((aH.aS (V:=Z) zh.out).trans hI)
    have Qo:=hid hI;have Xg:=hid hJ;clear hI hJ hX f0 u0 u1 hlu
    go_roundg 0
    case rel =>
     refine .inr ⟨rfl,?_,HC9.out,?_⟩
     ·exact Qo.out.box HT7.out (λ h=>by have:=HR.out.z _ h;omega)
     ·have:=Xg.out trivial
      rwa [Nat.zero_add]at this
    all_goals omega
  ·have t0:=aj hE (i:=0) rfl
   have HC:=hid hc;have Xi:=hid hj;clear hc hj hE;go_wp2_with fail
   go_end0
   exact⟨⟨_,rfl⟩,HC.out,.inl Xi.out⟩
end Go.Proofs.YtdpbgcmfeajigaaGreatDoor
namespace Go.Proofs.YtdpbgcmfeajigaaGreatDoor
open Go.RowKit Go.Shelf
attribute [local go_sem] ak run_store_func
def xM (Z:Dom)(I:Nat->World->Prop)(Ix:Code->World->Prop)(k:Nat)(W:World):Exit->Act->World->Prop
 | .normal,_,W'=>aH Z W W'/\I (k+1) W'
 | .ret,_,W'=>aH Z W W'/\Ix .ret W'
 | .exit id,_,W'=>aH Z W W'/\Ix (.exit id) W'
 | .goto t,_,W'=>aH Z W W'/\Ix (.goto t) W'
 | .panic _,_,_=>False
 | .outgrown,_,_=>False
theorem aH.putObj (w:World)(l:Nat)(o:Obj):aH (λ b=>b=l) w (w.putObj l o):=⟨rfl,rfl,rfl,by simp,λ b _ hb=>World.putObj_heap_other hb⟩
theorem sD {g:Operand}{ps:Array Tmp}{assign body:Code}{Q:Exit->Act->World->Prop}{a:Act}{w:World}(f:Fm)(b o pb B0:Nat)(A:Option Addr)(c:Nat)(Z:Dom)(I:Nat->World->Prop)(Ix:Code->World->Prop)
  (hg:a.eval g = .func (.func 94) #[] #[.pointer (some ⟨pb,0,none⟩)]) (hps:ps.size=2)
  (hf:dU w (· < B0) b o f A c) (hB:0<B0) (hBw:B0<=w.heap.size) (hp:w.cell? ⟨pb,0,none⟩=some (.pointer (some ⟨b,o,none⟩))) (hgf:GF w) (hd:f.depth<=5000)
  (hZ:∀b,Z b->B0<=b/\(b<w.heap.size\/w.heap.size+7<=b))
  (hI:∀k W W',I k W->aH (λ b=>w.heap.size<=b/\b<w.heap.size+7) W W'->I k W')
  (hIx:∀c W W',Ix c W->aH (λ b=>w.heap.size<=b/\b<w.heap.size+7) W W'->Ix c W') (h0:I 0 w)
  (a₁ : Value->Bool->Act)
  (hassign:∀(l:Nat) (p:Value) (q:Bool) (W:World) (K:Act->World->Prop),K (a₁ p q) W ->
   assign.wpIn (Fence.wide.inRound l) 0 Tryz.prog (Exit.then K (λ _ _ _=>False)) { tmps:=(ps.zip #[p,.bool q]).foldl (λ t (p,v)=>t.setIfInBounds p v) a.tmps,defers := [] } W)
  (dY:∀(l k:Nat) (W:World) (b o:Nat) (A:Option Addr) (c:Nat),w.heap.size+7<=W.heap.size->GF W->aH Z w W->I k W->k<(fA false f).length->dU W (· < B0) b o ((fA false f).getD k default).1 A c ->
   body.wpIn (Fence.wide.inRound l) 0 Tryz.prog (xM Z I Ix k W) (a₁ (.pointer (some ⟨b,o,none⟩)) ((fA false f).getD k default).2) W)
  (hdone:∀W,aH Z w W->I f.size W->W.heap[w.heap.size]?=some (.deferred (some []))->Q .normal { a with defers := { target := .collected w.heap.size,args := #[] } :: a.defers } W)
  (hstop:∀c W,aH Z w W->Ix c W->W.heap[w.heap.size]?=some (.deferred (some []))->c.wp Tryz.prog Q { a with defers := { target := .collected w.heap.size,args := #[] } :: a.defers } W) :
  (Code.rangeFunc g ps assign body).wp Tryz.prog Q a w:=by
 refine(wpIn_wide (n:=3)).1 (wpIn_rangeFunc λ fn _=>?_);obtain⟨rec,hrec⟩:∃rec:LoopState->Option Code->Loop,rec = λ st pe => { state:=st,pending:=pe,fn,tmps:=a.tmps,params:=ps,assign,body,defers:=w.heap.size }:=⟨_,rfl⟩;obtain⟨W1,hW1⟩:∃W1,(w.alloc (.deferred (some []))).alloc (.loop (rec .ready none))=W1:=⟨_,rfl⟩;have hL1:W1.heap[w.heap.size+1]?=some (.loop (rec .ready none)):=by rw[<-hW1];exact at_new _ _ _ (by simp)
 have hK1:W1.heap[w.heap.size]?=some (.deferred (some [])):=by rw[<-hW1,aQ _ _ _ (by simp)];exact at_new _ _ _ rfl
 have hs1:W1.heap.size=w.heap.size+2:=by rw[<-hW1];simp
 have hb1:Below w.heap.size w W1:=by rw[<-hW1];exact((Below.refl _ w).alloc (Nat.le_refl _) _).alloc (by simp) _
 refine⟨w.heap.size+1,[{ target := .collected w.heap.size,args := #[] }],W1,{ target := .fn (.func 94) #[.pointer (some ⟨pb,0,none⟩)],args := #[.func (.yield (w.heap.size+1)) #[] #[]] },W1,94,
  #[.func (.yield (w.heap.size+1)) #[] #[]] ++ #[.pointer (some ⟨pb,0,none⟩)],W1,?_,?_,?_,?_,?_,?_⟩
 ·rw[<-hW1,hrec];exact run_enterLoop_outer _ _ _ _ _
 ·simp only[resolve,hg]
  simp[go_sem]
 ·exact λ f' _=>trivial
 ·simp[invoke,go_sem,enters_of Tryz.func94 (by kernel_rfl) rfl]
 ·intro hd;simp[Fence.wide]at hd
 ·have own:∀W W':World,aH (λ b=>w.heap.size+2<=b/\b<w.heap.size+7) W W'->aH (λ b=>w.heap.size<=b/\b<w.heap.size+7) W W' := λ W W' h=>h.mono λ b _ hb=>⟨by omega,hb.2⟩
  have oC:∀W W':World,aH (λ b=>b=w.heap.size+1) W W'->aH (λ b=>w.heap.size<=b/\b<w.heap.size+7) W W' := λ W W' h=>h.mono λ b _ hb=>by omega
  refine callsIn_wide.2 ((Sj (l:=w.heap.size+1) (Z := λ b=>Z b\/b=w.heap.size+1) (B0:=B0) (B1:=w.heap.size+2)
   (J := λ k W=>I k W/\aH Z w W/\W.heap[w.heap.size+1]?=some (.loop (rec .ready none))/\W.heap[w.heap.size]?=some (.deferred (some [])))
   (X := λ W=>∃c,Ix c W/\aH Z w W/\W.heap[w.heap.size+1]?=some (.loop (rec .done (some c)))/\W.heap[w.heap.size]?=some (.deferred (some [])))
   f ⟨?_,?_,?_,?_⟩ hB b o pb A c W1 hs1 (by omega) (hf.keep (Keeps.of_below hb1 λ k (hk:k<B0)=>by omega)) ?_ (hgf.below hb1 (by omega)) hd ⟨hI 0 w W1 h0 (aH.aS hb1),aH.aS hb1,hL1,hK1⟩).mono ?_)
  ·rintro b (hb|hb)
   ·have:=hZ b hb;exact⟨this.1,by omega⟩
   ·omega
  ·rintro k W W' ⟨hi,hc,hl,hk⟩ hw
   exact⟨hI k W W' hi (own _ _ hw),hc.trans' hw λ b _ hb=>by omega,hw.box hl (by omega),hw.box hk (by omega)⟩
  ·rintro W W' ⟨c,hi,hc,hl,hk⟩ hw
   exact⟨c,hIx c W W' hi (own _ _ hw),hc.trans' hw λ b _ hb=>by omega,hw.box hl (by omega),hw.box hk (by omega)⟩
  ·rintro k W b o A c hsz hgw ⟨hi,hc,hl,hk⟩ hlen hfw
   have hlt:w.heap.size+1<W.heap.size:=lt_of_block hl;have hy:=run_yield (P:=Tryz.prog) (args := #[.pointer (some ⟨b,o,none⟩),.bool ((fA false f).getD k default).2]) hl (by rw[hrec];exact hps.symm);rw[hrec]at hy;refine⟨fn,_,assign,body,hy,roundIn_of_wpIn trivial (hassign _ _ _ W _ ⟨_,run_beginRound hl (by rw[hrec]),?_⟩)⟩;obtain⟨Wb,Ri⟩:∃Wb,Wb=W.putObj (w.heap.size+1) (.loop { rec .ready none with state := .busy }):=⟨_,rfl⟩;rw[<-Ri];have hcb:aH (λ b=>b=w.heap.size+1) W Wb:=by rw[Ri];exact aH.putObj _ _ _
   have hl2:Wb.heap[w.heap.size+1]?=some (.loop { rec .ready none with state := .busy }):=by rw[Ri];exact World.putObj_heap_same hlt
   have hk2:Wb.heap[w.heap.size]?=some (.deferred (some [])):=hcb.box hk (by omega);have hsb:W.heap.size<=Wb.heap.size:=hcb.size;refine wpIn_mono (dY _ k Wb b o A c (by omega) (hgw.eu hcb (by omega)) (hc.trans' hcb λ b _ hb=>by omega) (hI _ _ _ hi (oC _ _ hcb)) hlen (hfw.keep (hcb.keeps λ k _ (hk:k<B0)=>by omega))) ?_
   have fin:∀(jump:Option Code) (W3:World),aH Z Wb W3 ->
     (Instr.endRound (w.heap.size+1) jump).run Tryz.prog W3 = .ok (.bool jump.isNone) (W3.putObj (w.heap.size+1) (.loop (rec (if jump.isNone then .ready else .done) jump))) /\
     aH (λ b=>b=w.heap.size+1) W3 (W3.putObj (w.heap.size+1) (.loop (rec (if jump.isNone then .ready else .done) jump))) /\
     aH (λ b=>Z b\/b=w.heap.size+1) W (W3.putObj (w.heap.size+1) (.loop (rec (if jump.isNone then .ready else .done) jump))) /\
     aH Z w (W3.putObj (w.heap.size+1) (.loop (rec (if jump.isNone then .ready else .done) jump))) /\
     (W3.putObj (w.heap.size+1) (.loop (rec (if jump.isNone then .ready else .done) jump))).heap[w.heap.size+1]?=some (.loop (rec (if jump.isNone then .ready else .done) jump)) /\
     (W3.putObj (w.heap.size+1) (.loop (rec (if jump.isNone then .ready else .done) jump))).heap[w.heap.size]?=some (.deferred (some [])) := λ jump W3 hc3=>by
    have hl3:=hc3.box hl2 (λ h=>by have:=hZ _ h;omega);have hk3:=hc3.box hk2 (λ h=>by have:=hZ _ h;omega);have hcp:=aH.putObj W3 (w.heap.size+1) (.loop (rec (if jump.isNone then .ready else .done) jump));have hr:=run_endRound (P:=Tryz.prog) jump hl3;rw[hrec]at hr hcp⊢;refine⟨hr,hcp,?_,?_,World.putObj_heap_same (lt_of_block hl3),hcp.box hk3 (by omega)⟩
    ·exact((hcb.mono λ b _ hb => .inr hb).trans (hc3.mono λ b _ hb => .inl hb)).trans (hcp.mono λ b _ hb => .inr hb)
    ·exact((hc.trans' hcb λ b _ hb=>by omega).trans hc3).trans' hcp λ b _ hb=>by omega
   rintro e a3 W3 hp
   cases e with
   | normal =>
    obtain⟨hc3,hi3⟩:=hp;obtain⟨hr,hcp,hcW,hcw,hl4,hk4⟩:=fin none W3 hc3;exact⟨_,_,hr,hcW,.inl ⟨rfl,hI _ _ _ hi3 (oC _ _ hcp),hcw,hl4,hk4⟩⟩
   | ret =>
    obtain⟨hc3,hi3⟩:=hp;obtain⟨hr,hcp,hcW,hcw,hl4,hk4⟩:=fin (some .ret) W3 hc3;exact⟨_,_,hr,hcW,.inr ⟨rfl,_,hIx _ _ _ hi3 (oC _ _ hcp),hcw,hl4,hk4⟩⟩
   | exit id =>
    obtain⟨hc3,hi3⟩:=hp;obtain⟨hr,hcp,hcW,hcw,hl4,hk4⟩:=fin (some (.exit id)) W3 hc3;exact⟨_,_,hr,hcW,.inr ⟨rfl,_,hIx _ _ _ hi3 (oC _ _ hcp),hcw,hl4,hk4⟩⟩
   | goto t =>
    obtain⟨hc3,hi3⟩:=hp;obtain⟨hr,hcp,hcW,hcw,hl4,hk4⟩:=fin (some (.goto t)) W3 hc3;exact⟨_,_,hr,hcW,.inr ⟨rfl,_,hIx _ _ _ hi3 (oC _ _ hcp),hcw,hl4,hk4⟩⟩
   | panic ch=>exact hp.elim
   | outgrown=>exact hp.elim
  ·exact(hb1.cell (p:=⟨pb,0,none⟩) (World.block_lt_of_cell? w _ hp)).trans hp
  ·rintro e W2 ⟨⟨v,rfl⟩,hc2,(⟨hi,hc,hl,hk⟩|⟨c,hi,hc,hl,hk⟩)⟩
   ·refine⟨none,_,by have:=run_endLoop (P:=Tryz.prog) hl (by rw[hrec];simp);rw[hrec]at this;exact this,?_⟩
    have hcp:=aH.putObj W2 (w.heap.size+1) (.loop { rec .ready none with state := .exhausted });rw[hrec]at hcp;exact hdone _ (hc.trans' hcp λ b _ hb=>by omega) (hI _ _ _ hi (oC _ _ hcp)) (hcp.box hk (by omega))
   ·refine⟨some c,_,by have:=run_endLoop (P:=Tryz.prog) hl (by rw[hrec];simp);rw[hrec]at this;exact this,?_⟩
    have hcp:=aH.putObj W2 (w.heap.size+1) (.loop { rec .done (some c)with state := .exhausted });rw[hrec]at hcp;exact wpIn_wide.2 (hstop c _ (hc.trans' hcp λ b _ hb=>by omega) (hIx _ _ _ hi (oC _ _ hcp)) (hcp.box hk (by omega)))
theorem yD (p:Option Addr)(w:World) :
  Calls Tryz.prog 51 #[.pointer p] w λ e w'=>e = .returned (.func (.func 94) #[] #[.pointer (some ⟨w.heap.size,0,none⟩)])/\w'=w.alloc (.cells #[.pointer p] 67):=by
 have hmf:∀(fn:Fn) (first cap:Array Value) (w:World),(Instr.makeFunc fn first cap).run Tryz.prog w = .ok (.func fn first cap) w := λ _ _ _ _=>rfl
 go_enter Tryz.func51,Tryz.ntmps51
 go_wp2_with fail
 go_ret
 exact⟨rfl,rfl⟩
end Go.Proofs.YtdpbgcmfeajigaaGreatDoor
namespace Go.Proofs.YtdpbgcmfeajigaaGreatDoor
open Go.RowKit Go.Shelf
attribute [local go_sem] ak Oper.semAt_some
theorem qae {F:Fence}{n:Nat}{P:Program}{c:Code}{Q:Exit->Act->World->Prop}{a:Act}{w:World}(h:∀W,W=w->c.wpIn F n P Q a W):c.wpIn F n P Q a w:=h w rfl
theorem at_set {w:World}{p:Addr}{u:Value}{b:Nat}(h:b≠p.block):(w.setCell p u).heap[b]?=w.heap[b]?:=Below.heap_setCell _ _ _ _ h
def vS (q:Fm×Bool->Bool)(f:Fm)(k:Nat):Prop:=∀j,j<k->q ((fA false f).getD j default)=true
theorem qL (q:Fm×Bool->Bool)(f:Fm):vS q f 0 := λ j h=>absurd h (Nat.not_lt_zero _)
theorem qK {q:Fm×Bool->Bool}{f:Fm}{k:Nat}(h:vS q f k)(h2:q ((fA false f).getD k default)=true):vS q f (k+1) := λ j hj=>by
 rcases Nat.lt_succ_iff_lt_or_eq.1 hj with h3|h3
 ·exact h j h3
 ·rw[h3];exact h2
theorem Jd {l:List (Fm×Bool)}{k:Nat}(h:k<l.length):l.getD k default∈l:=by simp[List.getD,h]
def allB (q:Fm×Bool->Bool)(f:Fm):Bool:=(fA false f).all q
theorem tH {q:Fm×Bool->Bool}{f:Fm}(h:vS q f f.size):allB q f=true:=by
 unfold allB;rw[List.all_eq_true];intro x hx;obtain⟨i,hi,he⟩:=List.getElem_of_mem hx;have:=h i (by rw[<-qZ false f];exact hi);rw[List.getD_eq_getElem?_getD,List.getElem?_eq_getElem hi,he]at this;exact this
theorem uP {q:Fm×Bool->Bool}{f:Fm}{k:Nat}(hk:k<(fA false f).length)(h:q ((fA false f).getD k default)=false):allB q f=false:=by
 unfold allB;rw[List.all_eq_false];refine⟨(fA false f).getD k default,Jd hk,by rw[h];simp⟩
theorem fZ {P:Program}{fn:Func}{R:Ending->World->Prop}{a:Act}{w:World}{D:Nat}{v:Value}(hd:a.defers = [{ target := .collected D,args := #[] }])(hD:w.heap[D]?=some (.deferred (some [])))
  (hr:∀w',aH (λ b=>b=D) w w'->(results fn a.tmps).run P w' = .ok v w') (h:∀w',aH (λ b=>b=D) w w'->R (.returned v) w'):bodyPostM Fence.wide 3 P fn R .ret a w:=by
 show LeavesInM Fence.wide 3 P fn a.tmps R a.defers .returning w;rw[hd];exact⟨by simp,.inl ⟨_,_,rfl,run_takeDeferred hD,v,hr _ (aH.putObj _ _ _),h _ (aH.putObj _ _ _)⟩⟩
def iC (x:Fm×Bool):Bool := !(aJ x.1.op).future
theorem Gj {D:Dom}(f:Fm)(v:Value)(w:World)(h:bI w D v f)(hg:GF w)(hd:f.depth<=5000) :
  Calls Tryz.prog 12 #[v] w λ e w'=>e = .returned (.bool (allB iC f))/\Below w.heap.size w w':=by
 obtain⟨A,c,rfl,ha⟩:=h;have HA:=hid ha.old;have HG:=hid hg;have HD:=hid hd;clear ha hg hd;refine(callsIn_wide (n:=3)).1 (callsIn_of_wp_marks Tryz.func12 rfl trivial ?_ rfl);simp only[Tryz.ntmps12,List.size_toArray,List.length_cons,List.length_nil,Nat.reduceAdd,Nat.reduceSub,Array.replicate_succ,Array.replicate_zero,List.push_toArray,List.append_toArray,List.nil_append,List.cons_append];refine wpIn_wide.2 ?_;go_upto_region 1 with(fail)
 refine aC λ W hW=>?_;have hb:Below w.heap.size w W:=by rw[hW];go_grown
 have e0:dH W w.heap.size f A c:=by
  show W.heap[w.heap.size]?=_;rw[hW,aQ _ _ _ (by simp)];exact at_new _ _ _ rfl
 have e1:W.heap[w.heap.size+1]?=some (.cells #[.bool false] 4 (0,0)):=by rw[hW];exact at_new _ _ _ (by simp)
 have hs:W.heap.size=w.heap.size+2:=by rw[hW];simp
 have HB:=hid hb;have mW:=hid e0;have kG:=hid e1;have HS:=hid hs;clear hW hb e0 e1 hs;go_wp2_with (first|(go_at_call 51;refine(yD _ W).mono ?_;rintro e w2 ⟨rfl,rfl⟩))
 refine aC λ W2 hW2=>?_;have hb2:Below W.heap.size W W2:=by rw[hW2];go_grown
 have hp2:W2.cell? ⟨W.heap.size,0,none⟩=some (.pointer (some ⟨w.heap.size,0,none⟩)):=by rw[hW2];exact aj (at_new _ _ _ rfl) (i:=0) rfl
 have hs2:W2.heap.size=w.heap.size+3:=by rw[hW2];simp;exact HS.out
 have HB2:=hid (HB.out.trans (hb2.mono HB.out.size));have hE1:W2.heap[w.heap.size+1]?=some (.cells #[.bool false] 4 (0,0)):=(hb2.block _ (by have:=HS.out;omega)).trans kG.out;have HF:=hid (dH.yN (D:=(· < w.heap.size+1)) (mW.out.below hb2) (Nat.lt_succ_self _) ((HA.out.keep (Keeps.of_below HB2.out λ _ h=>h)).mono λ k hk _=>Nat.lt_succ_of_lt hk));have HP:=hid hp2;have HS2:=hid hs2;have wK:=hid hE1;have HG2:=hid (HG.out.below HB2.out HG.out.pos);clear hW2 hb2 hp2 hs2 hE1
 refine sD f w.heap.size 0 W.heap.size (w.heap.size+1) A c (λ b=>b=w.heap.size+1)
  (λ k W'=>vS iC f k/\W'.heap[w.heap.size+1]?=some (.cells #[.bool false] 4 (0,0)))
  (λ c W'=>c = .ret/\allB iC f=false/\W'.heap[w.heap.size+1]?=some (.cells #[.bool false] 4 (0,0)))
  rfl rfl HF.out (by omega) (by have:=HS2.out;omega) HP.out HG2.out HD.out ?hZ ?hI ?hIx ⟨qL _ _,wK.out⟩ ?a1 ?hassign ?dY ?hdone ?hstop
 case hassign =>
  intro l p q W K hK
  gi_wp2
  exact hK
 case hZ=>intro b hb;have:=HS2.out;omega
 case hI=>rintro k W3 W4 ⟨h1,h2⟩ hc;exact⟨h1,hc.box h2 (by have:=HS2.out;omega)⟩
 case hIx=>rintro c W3 W4 ⟨h0,h1,h2⟩ hc;exact⟨h0,h1,hc.box h2 (by have:=HS2.out;omega)⟩
 case dY =>
  rintro l k W3 b o A' c' hs3 hg3 hc3 ⟨hk1,hk2⟩ hlen hf3;obtain⟨gd,gl,g0,g1,g2,g3,g4,ga⟩:=hf3;have hfo:=(qO ((fA false f).getD k default).1.op W3 hg3);obtain⟨x,hx⟩:∃x,x=(fA false f).getD k default:=⟨_,rfl⟩;rw[<-hx]at hfo g0;unfold I8 at hfo;have UK:=hid hk1;have zT:=hid hk2;have HX:=hid hx;have HLEN:=hid hlen;clear hk1 hk2 hg3 ga hx hlen;have NQ:Fence.wide.fn 52:=trivial;have hfd:Fence.wide.depth=none:=rfl;have hq:iC x = !(aJ x.1.op).future:=rfl;have HQ:=hid hq;clear hq
  cases hfu:(aJ x.1.op).future <;> rw[hfu]at hfo <;> (have XF:=hid hfu) <;> clear hfu
  ·gi_wp2_with (gi_at_call 52;refine(CallsIn.inRound l (callsIn_wide.2 hfo)).mono ?_;rintro e W4 ⟨rfl,hb4⟩)
   have hc4:=(aH.aS (V := λ b=>b=w.heap.size+1) hb4).alloc (.cells #[.int .i64 (aJ x.1.op).least,.int .i64 (aJ x.1.op).most,.int .i64 (aJ x.1.op).val,.int .i64 (aJ x.1.op).bound,.bool (aJ x.1.op).named,.bool (aJ x.1.op).past,.bool false,.bool (aJ x.1.op).loose] 78);refine⟨hc4,qK UK.out (by rw[<-HX.out,HQ.out,XF.out];rfl),?_⟩;rw[aQ _ _ _ (by have:=lt_of_block zT.out;have:=hb4.size;omega)];exact(hb4.block _ (lt_of_block zT.out)).trans zT.out
  ·gi_wp2_with (gi_at_call 52;refine(CallsIn.inRound l (callsIn_wide.2 hfo)).mono ?_;rintro e W4 ⟨rfl,hb4⟩;have q0:=(hb4.block _ (lt_of_block zT.out)).trans zT.out;have r0:=aj q0 (i:=0) rfl;have r1:=aA q0 (i:=0);have r2:=lt_of_block q0)
   refine⟨((aH.aS (V := λ b=>b=w.heap.size+1) hb4).set ⟨w.heap.size+1,0,none⟩ (.bool false) (λ _=>rfl)).alloc _,rfl,uP HLEN.out (by rw[<-HX.out,HQ.out,XF.out];rfl),?_⟩;rw[aQ _ _ _ (by simpa using r2),aB q0];rfl
 case hdone =>
  rintro W3 hc ⟨h1,h2⟩ hD3;have r0:=aj h2 (i:=0) rfl;have r1:=aA h2 (i:=0);have r2:=lt_of_block h2
  dsimp only
  go_wp2_with fail
  have hD4:=(at_set (w:=W3) (p:=⟨w.heap.size+1,0,none⟩) (u := .bool true) (show W2.heap.size≠w.heap.size+1 by have:=HS2.out;omega)).trans hD3;have e4:(W3.setCell ⟨w.heap.size+1,0,none⟩ (.bool true)).heap[w.heap.size+1]?=some (.cells #[.bool true] 4 (0,0)):=by rw[aB h2];rfl
  have hc4:=(HB2.out.trans (hc.below (B:=w.heap.size) (λ b hb=>by omega) HB2.out.size)).setCell (p:=⟨w.heap.size+1,0,none⟩) (Nat.le_succ _) (.bool true);refine fZ rfl hD4 (v := .bool true) (λ w' hc'=>?_) (λ w' hc'=>⟨by rw[tH h1],hc4.trans (hc'.below (λ b hb=>by have:=HS2.out;omega) hc4.size)⟩);have:=aj (hc'.box e4 (by have:=HS2.out;omega)) (i:=0) rfl;simp[results,Tryz.results12,go_sem,this]
 case hstop =>
  rintro c W3 hc ⟨rfl,h1,h2⟩ hD3
  dsimp only
  go_wp2_with fail
  have hc4:=HB2.out.trans (hc.below (B:=w.heap.size) (λ b hb=>by omega) HB2.out.size);refine fZ rfl hD3 (v := .bool false) (λ w' hc'=>?_) (λ w' hc'=>⟨by rw[h1],hc4.trans (hc'.below (λ b hb=>by have:=HS2.out;omega) hc4.size)⟩);have:=aj (hc'.box h2 (by have:=HS2.out;omega)) (i:=0) rfl;simp[results,Tryz.results12,go_sem,this]
end Go.Proofs.YtdpbgcmfeajigaaGreatDoor
namespace Go.Proofs.YtdpbgcmfeajigaaGreatDoor
open Go.RowKit Go.Shelf
attribute [local go_sem] ak Oper.semAt_some
def oh (x:Fm×Bool):Bool := !((aJ x.1.op).future&&x.2)
theorem NY {D:Dom}(f:Fm)(v:Value)(w:World)(h:bI w D v f)(hg:GF w)(hd:f.depth<=5000) :
  Calls Tryz.prog 211 #[v] w λ e w'=>e = .returned (.bool (allB oh f))/\Below w.heap.size w w':=by
 obtain⟨A,c,rfl,ha⟩:=h;have HA:=hid ha.old;have HG:=hid hg;have HD:=hid hd;clear ha hg hd;refine(callsIn_wide (n:=3)).1 (callsIn_of_wp_marks Tryz.func211 rfl trivial ?_ rfl);simp only[Tryz.ntmps211,List.size_toArray,List.length_cons,List.length_nil,Nat.reduceAdd,Nat.reduceSub,Array.replicate_succ,Array.replicate_zero,List.push_toArray,List.append_toArray,List.nil_append,List.cons_append];refine wpIn_wide.2 ?_;go_upto_region 1 with(fail)
 refine aC λ W hW=>?_;have hb:Below w.heap.size w W:=by rw[hW];go_grown
 have e0:dH W w.heap.size f A c:=by
  show W.heap[w.heap.size]?=_;rw[hW,aQ _ _ _ (by simp)];exact at_new _ _ _ rfl
 have e1:W.heap[w.heap.size+1]?=some (.cells #[.bool false] 4 (0,0)):=by rw[hW];exact at_new _ _ _ (by simp)
 have hs:w.heap.size+2<=W.heap.size:=by rw[hW];simp
 have HB:=hid hb;have mW:=hid e0;have kG:=hid e1;have HS:=hid hs;clear hW hb e0 e1 hs;go_wp2_with (first|(go_at_call 51;refine(yD _ W).mono ?_;rintro e w2 ⟨rfl,rfl⟩))
 refine aC λ W2 hW2=>?_;have hb2:Below W.heap.size W W2:=by rw[hW2];go_grown
 have hp2:W2.cell? ⟨W.heap.size,0,none⟩=some (.pointer (some ⟨w.heap.size,0,none⟩)):=by rw[hW2];exact aj (at_new _ _ _ rfl) (i:=0) rfl
 have hs2:w.heap.size+3<=W2.heap.size:=by rw[hW2];simp;have:=HS.out;omega
 have HB2:=hid (HB.out.trans (hb2.mono HB.out.size));have hE1:W2.heap[w.heap.size+1]?=some (.cells #[.bool false] 4 (0,0)):=(hb2.block _ (by have:=HS.out;omega)).trans kG.out;have HF:=hid (dH.yN (D:=(· < w.heap.size+1)) (mW.out.below hb2) (Nat.lt_succ_self _) ((HA.out.keep (Keeps.of_below HB2.out λ _ h=>h)).mono λ k hk _=>Nat.lt_succ_of_lt hk));have HP:=hid hp2;have HS2:=hid hs2;have wK:=hid hE1;have HG2:=hid (HG.out.below HB2.out HG.out.pos);clear hW2 hb2 hp2 hs2 hE1
 refine sD f (w.heap.size) (0) W.heap.size (w.heap.size+1) A c (λ b=>b=w.heap.size+1)
  (λ k W'=>vS oh f k/\W'.heap[w.heap.size+1]?=some (.cells #[.bool false] 4 (0,0)))
  (λ c W'=>c = .ret/\allB oh f=false/\W'.heap[w.heap.size+1]?=some (.cells #[.bool false] 4 (0,0)))
  rfl rfl HF.out (by have:=HG.out.pos;omega) (by have:=HS2.out;omega) HP.out HG2.out HD.out ?hZ ?hI ?hIx ⟨qL _ _,wK.out⟩ ?a1 ?hassign ?dY ?hdone ?hstop
 case hassign =>
  intro l p q W K hK
  gi_wp2
  exact hK
 case hZ=>intro b hb;have:=HS2.out;omega
 case hI=>rintro k W3 W4 ⟨h1,h2⟩ hc;exact⟨h1,hc.box h2 (by have:=HS2.out;omega)⟩
 case hIx=>rintro c W3 W4 ⟨h0,h1,h2⟩ hc;exact⟨h0,h1,hc.box h2 (by have:=HS2.out;omega)⟩
 case dY =>
  rintro l k W3 b o A' c' hs3 hg3 hc3 ⟨hk1,hk2⟩ hlen hf3;generalize hx:(fA false f).getD k default=x at hf3⊢;obtain⟨g,ins⟩:=x;have hq:oh ((fA false f).getD k default)=oh (g,ins):=by rw[hx]
  have UK:=hid hk1;have uO:=hid hk2;have HLEN:=hid hlen;have HQ:=hid hq;have Dk:=hid hc3;clear hk1 hk2 hx hlen hq hc3;have OKE:∀W4:World,oh (g,ins)=true->aH (λ b=>b=w.heap.size+1) W3 W4->W4.heap[w.heap.size+1]?=some (.cells #[.bool false] 4 (0,0))->aH (λ b=>b=w.heap.size+1) W3 W4/\vS oh f (k+1)/\W4.heap[w.heap.size+1]?=some (.cells #[.bool false] 4 (0,0)) := λ W4 h1 h2 h3=>⟨h2,qK UK.out (HQ.out.trans h1),h3⟩
  have NOE:∀W4:World,oh (g,ins)=false->aH (λ b=>b=w.heap.size+1) W3 W4->W4.heap[w.heap.size+1]?=some (.cells #[.bool false] 4 (0,0))->aH (λ b=>b=w.heap.size+1) W3 W4/\allB oh f=false/\W4.heap[w.heap.size+1]?=some (.cells #[.bool false] 4 (0,0)) := λ W4 h1 h2 h3=>⟨h2,uP HLEN.out (HQ.out.trans h1),h3⟩;have Hw:=hid OKE;have J4:=hid NOE;have NQ:Fence.wide.fn 52:=trivial;have hfn2:Fence.wide.fn 119:=trivial;have hfd:Fence.wide.depth=none:=rfl;clear OKE NOE;have q0:=uO.out;have r0:=aj q0 (i:=0) rfl;have r1:=aA q0 (i:=0);have r2:=lt_of_block q0;clear q0;obtain⟨gd,gl,g0,g1,g2,g3,g4,ga⟩:=hf3;have hfo:=qO g.op W3 hg3;unfold I8 at hfo;clear hg3 ga g1 g2 g3 g4
  cases hfu:(aJ g.op).future <;> rw[hfu]at hfo <;> (have XF:=hid hfu) <;> clear hfu <;> cases ins
  ·gi_wp2_with (gi_at_call 52;refine(CallsIn.inRound l (callsIn_wide.2 hfo)).mono ?_;rintro e W4 ⟨rfl,hb4⟩;have q0:=(hb4.block _ (lt_of_block uO.out)).trans uO.out;have r0:=aj q0 (i:=0) rfl;have r1:=aA q0 (i:=0);have r2:=lt_of_block q0)
   refine Hw.out _ ?_ ((aH.aS (V := λ b=>b=w.heap.size+1) hb4).alloc _) ?_
   ·show(!((aJ g.op).future&&_))=true
    rw[XF.out];rfl
   ·rw[aQ _ _ _ r2];exact q0
  ·gi_wp2_with (gi_at_call 52;refine(CallsIn.inRound l (callsIn_wide.2 hfo)).mono ?_;rintro e W4 ⟨rfl,hb4⟩;have q0:=(hb4.block _ (lt_of_block uO.out)).trans uO.out;have r0:=aj q0 (i:=0) rfl;have r1:=aA q0 (i:=0);have r2:=lt_of_block q0)
   refine Hw.out _ ?_ ((aH.aS (V := λ b=>b=w.heap.size+1) hb4).alloc _) ?_
   ·show(!((aJ g.op).future&&_))=true
    rw[XF.out];rfl
   ·rw[aQ _ _ _ r2];exact q0
  ·gi_wp2_with (gi_at_call 52;refine(CallsIn.inRound l (callsIn_wide.2 hfo)).mono ?_;rintro e W4 ⟨rfl,hb4⟩;have q0:=(hb4.block _ (lt_of_block uO.out)).trans uO.out;have r0:=aj q0 (i:=0) rfl;have r1:=aA q0 (i:=0);have r2:=lt_of_block q0)
   refine Hw.out _ ?_ ((aH.aS (V := λ b=>b=w.heap.size+1) hb4).alloc _) ?_
   ·show(!((aJ g.op).future&&_))=true
    rw[XF.out];rfl
   ·rw[aQ _ _ _ r2];exact q0
  ·gi_wp2_with (gi_at_call 52;refine(CallsIn.inRound l (callsIn_wide.2 hfo)).mono ?_;rintro e W4 ⟨rfl,hb4⟩;have q0:=(hb4.block _ (lt_of_block uO.out)).trans uO.out;have r0:=aj q0 (i:=0) rfl;have r1:=aA q0 (i:=0);have r2:=lt_of_block q0)
   refine(λ z=>⟨z.1,rfl,z.2⟩) (J4.out _ ?_ (((aH.aS (V := λ b=>b=w.heap.size+1) hb4).set ⟨w.heap.size+1,0,none⟩ (.bool false) (λ _=>rfl)).alloc _) ?_)
   ·show(!((aJ g.op).future&&_))=false
    rw[XF.out];rfl
   ·rw[aQ _ _ _ (by simpa using r2),aB q0]
    rfl
 case hdone =>
  rintro W3 hc ⟨h1,h2⟩ hD3;have r0:=aj h2 (i:=0) rfl;have r1:=aA h2 (i:=0);have r2:=lt_of_block h2
  dsimp only
  go_wp2_with fail
  have hD4:=(at_set (w:=W3) (p:=⟨w.heap.size+1,0,none⟩) (u := .bool true) (show W2.heap.size≠w.heap.size+1 by have:=HS2.out;omega)).trans hD3;have e4:(W3.setCell ⟨w.heap.size+1,0,none⟩ (.bool true)).heap[w.heap.size+1]?=some (.cells #[.bool true] 4 (0,0)):=by rw[aB h2];rfl
  have hc4:=(HB2.out.trans (hc.below (B:=w.heap.size) (λ b hb=>by omega) HB2.out.size)).setCell (p:=⟨w.heap.size+1,0,none⟩) (by simp) (.bool true);refine fZ rfl hD4 (v := .bool true) (λ w' hc'=>?_) (λ w' hc'=>⟨by rw[tH h1],hc4.trans (hc'.below (λ b hb=>by have:=HS2.out;omega) hc4.size)⟩);have:=aj (hc'.box e4 (by have:=HS2.out;omega)) (i:=0) rfl;simp[results,Tryz.results211,go_sem,this]
 case hstop =>
  rintro c W3 hc ⟨rfl,h1,h2⟩ hD3
  dsimp only
  go_wp2_with fail
  have hc4:=HB2.out.trans (hc.below (B:=w.heap.size) (λ b hb=>by omega) HB2.out.size);refine fZ rfl hD3 (v := .bool false) (λ w' hc'=>?_) (λ w' hc'=>⟨by rw[h1],hc4.trans (hc'.below (λ b hb=>by have:=HS2.out;omega) hc4.size)⟩);have:=aj (hc'.box h2 (by have:=HS2.out;omega)) (i:=0) rfl;simp[results,Tryz.results211,go_sem,this]
theorem vg {P:Program}{fn:Func}{R:Ending->World->Prop}{a:Act}{w:World}{v:Value}(hd:a.defers = [])
  (hr:(results fn a.tmps).run P w = .ok v w) (h:R (.returned v) w):bodyPostM Fence.wide 3 P fn R .ret a w:=by
 show LeavesInM Fence.wide 3 P fn a.tmps R a.defers .returning w;rw[hd];exact⟨v,hr,h⟩
def Bq (x:Fm×Bool):Bool:=bW x.1
def jP (f:Fm):Bool:=bK f 60 20&&allB Bq f
theorem JK {D:Dom}(f:Fm)(v:Value)(w:World)(h:bI w D v f)(hg:GF w)(hk:GK w) :
  Calls Tryz.prog 156 #[v] w λ e w'=>e = .returned (.bool (jP f))/\Below w.heap.size w w':=by
 obtain⟨A,c,rfl,ha⟩:=h;have HA:=hid ha.old;have HG:=hid hg;have HK:=hid hk;clear ha hg hk;refine(callsIn_wide (n:=3)).1 (callsIn_of_wp_marks Tryz.func156 rfl trivial ?_ rfl);simp only[Tryz.ntmps156,List.size_toArray,List.length_cons,List.length_nil,Nat.reduceAdd,Nat.reduceSub,Array.replicate_succ,Array.replicate_zero,List.push_toArray,List.append_toArray,List.nil_append,List.cons_append];refine wpIn_wide.2 ?_;go_upto_region 1 with(fail)
 refine aC λ W hW=>?_;have hb:Below w.heap.size w W:=by rw[hW];go_grown
 have e0:dH W w.heap.size f A c:=by
  show W.heap[w.heap.size]?=_;rw[hW,aQ _ _ _ (by simp)];exact at_new _ _ _ rfl
 have e1:W.heap[w.heap.size+1]?=some (.cells #[.bool false] 4 (0,0)):=by rw[hW];exact at_new _ _ _ (by simp)
 have hs:w.heap.size+2<=W.heap.size:=by rw[hW];simp
 have HB:=hid hb;have mW:=hid e0;have kG:=hid e1;have HS:=hid hs;clear hW hb e0 e1 hs;have Hy:=hid (zM f w.heap.size 0 A c 60 20 W (dH.yN (D := λ _=>True) mW.out trivial ((HA.out.keep (Keeps.of_below HB.out λ _ h=>h)).mono λ _ _ _=>trivial)) (by decide) (by decide) (by decide) (by decide));cases hfit:bK f 60 20
 ·have HR:=hid (show jP f=false by unfold jP;rw[hfit];rfl)
  rw[hfit]at Hy;clear hfit;go_wp2_with (first|(go_at_call 80;refine Hy.out.mono ?_;rintro e V ⟨rfl,ku⟩;have q0:=(ku.block _ (lt_of_block kG.out)).trans kG.out;have r0:=aj q0 (i:=0) rfl;have r1:=aA q0 (i:=0);have r2:=lt_of_block q0))
  have q1:(V.setCell ⟨w.heap.size+1,0,none⟩ (.bool false)).heap[w.heap.size+1]?=some (.cells #[.bool false] 4 (0,0)):=by rw[aB q0];rfl
  have q2:=aj q1 (i:=0) rfl;refine vg rfl (v := .bool false) ?_ ⟨by rw[HR.out],(HB.out.trans (ku.mono HB.out.size)).setCell (p:=⟨w.heap.size+1,0,none⟩) (by simp) _⟩;simp[results,Tryz.results156,go_sem,q2]
 have HFT:=hid hfit;have HD:=hid (show f.depth<=5000 by have:=(gJ.1 hfit).2;omega);rw[hfit]at Hy;clear hfit;go_wp2_with (first|(go_at_call 80;refine Hy.out.mono ?_;rintro e V ⟨rfl,ku⟩;have iD:=hid (HB.out.trans (ku.mono HB.out.size));have HE0V:=hid (mW.out.below ku);have HE1V:=hid ((ku.block _ (lt_of_block kG.out)).trans kG.out);have BK:=hid (Nat.le_trans HS.out ku.size))|(go_at_call 51;refine(yD _ V).mono ?_;rintro e w2 ⟨rfl,rfl⟩))
 clear Hy;refine aC λ W2 hW2=>?_;have hb2:Below V.heap.size V W2:=by rw[hW2];go_grown
 have hp2:W2.cell? ⟨V.heap.size,0,none⟩=some (.pointer (some ⟨w.heap.size,0,none⟩)):=by rw[hW2];exact aj (at_new _ _ _ rfl) (i:=0) rfl
 have hs2:w.heap.size+3<=W2.heap.size:=by rw[hW2];simp;have:=BK.out;omega
 have HB2:=hid (iD.out.trans (hb2.mono iD.out.size));have hE1:W2.heap[w.heap.size+1]?=some (.cells #[.bool false] 4 (0,0)):=(hb2.block _ (by have:=BK.out;omega)).trans HE1V.out;have HF:=hid (dH.yN (D:=(· < w.heap.size+1)) (HE0V.out.below hb2) (Nat.lt_succ_self _) ((HA.out.keep (Keeps.of_below HB2.out λ _ h=>h)).mono λ k hk _=>Nat.lt_succ_of_lt hk));have HP:=hid hp2;have HS2:=hid hs2;have wK:=hid hE1;have HG2:=hid (HG.out.below HB2.out HG.out.pos);have zT:=hid (HK.out.below HB2.out HK.out.pos);clear hW2 hb2 hp2 hs2 hE1
 refine sD f (w.heap.size) (0) V.heap.size (w.heap.size+1) A c (λ b=>b=w.heap.size+1)
  (λ k W'=>vS Bq f k/\W'.heap[w.heap.size+1]?=some (.cells #[.bool false] 4 (0,0)))
  (λ c W'=>c = .ret/\allB Bq f=false/\W'.heap[w.heap.size+1]?=some (.cells #[.bool false] 4 (0,0)))
  rfl rfl HF.out (by have:=HG.out.pos;omega) (by have:=HS2.out;omega) HP.out HG2.out HD.out ?hZ ?hI ?hIx ⟨qL _ _,wK.out⟩ ?a1 ?hassign ?dY ?hdone ?hstop
 case hassign =>
  intro l p q W K hK
  gi_wp2
  exact hK
 case hZ=>intro b hb;have:=HS2.out;omega
 case hI=>rintro k W3 W4 ⟨h1,h2⟩ hc;exact⟨h1,hc.box h2 (by have:=HS2.out;omega)⟩
 case hIx=>rintro c W3 W4 ⟨h0,h1,h2⟩ hc;exact⟨h0,h1,hc.box h2 (by have:=HS2.out;omega)⟩
 case dY =>
  rintro l k W3 b o A' c' hs3 hg3 hc3 ⟨hk1,hk2⟩ hlen hf3;generalize hx:(fA false f).getD k default=x at hf3⊢;obtain⟨g,ins⟩:=x;have hq:Bq ((fA false f).getD k default)=Bq (g,ins):=by rw[hx]
  have UK:=hid hk1;have uO:=hid hk2;have HLEN:=hid hlen;have HQ:=hid hq;have Dk:=hid hc3;clear hk1 hk2 hx hlen hq hc3;have OKE:∀W4:World,Bq (g,ins)=true->aH (λ b=>b=w.heap.size+1) W3 W4->W4.heap[w.heap.size+1]?=some (.cells #[.bool false] 4 (0,0))->aH (λ b=>b=w.heap.size+1) W3 W4/\vS Bq f (k+1)/\W4.heap[w.heap.size+1]?=some (.cells #[.bool false] 4 (0,0)) := λ W4 h1 h2 h3=>⟨h2,qK UK.out (HQ.out.trans h1),h3⟩
  have NOE:∀W4:World,Bq (g,ins)=false->aH (λ b=>b=w.heap.size+1) W3 W4->W4.heap[w.heap.size+1]?=some (.cells #[.bool false] 4 (0,0))->aH (λ b=>b=w.heap.size+1) W3 W4/\allB Bq f=false/\W4.heap[w.heap.size+1]?=some (.cells #[.bool false] 4 (0,0)) := λ W4 h1 h2 h3=>⟨h2,uP HLEN.out (HQ.out.trans h1),h3⟩;have Hw:=hid OKE;have J4:=hid NOE;have NQ:Fence.wide.fn 52:=trivial;have hfn2:Fence.wide.fn 119:=trivial;have hfd:Fence.wide.depth=none:=rfl;clear OKE NOE;have q0:=uO.out;have r0:=aj q0 (i:=0) rfl;have r1:=aA q0 (i:=0);have r2:=lt_of_block q0;clear q0;have hsh:=GR g b o A' c' W3 hf3 hg3 (zT.out.below (Dk.out.below (B:=w.heap.size) (λ b hb=>by omega) (by have:=HS2.out;omega)) HK.out.pos);clear hf3
  cases hqq:bW g <;> rw[hqq]at hsh <;> (have HQQ:=hid hqq) <;> clear hqq
  ·gi_wp2_with (gi_at_call 119;refine(CallsIn.inRound l (callsIn_wide.2 hsh)).mono ?_;rintro e W4 ⟨rfl,hb4⟩;have q0:=(hb4.block _ (lt_of_block uO.out)).trans uO.out;have r0:=aj q0 (i:=0) rfl;have r1:=aA q0 (i:=0);have r2:=lt_of_block q0)
   refine(λ z=>⟨z.1,rfl,z.2⟩) (J4.out _ HQQ.out ((aH.aS (V := λ b=>b=w.heap.size+1) hb4).set ⟨w.heap.size+1,0,none⟩ (.bool false) (λ _=>rfl)) ?_);rw[aB q0];rfl
  ·gi_wp2_with (gi_at_call 119;refine(CallsIn.inRound l (callsIn_wide.2 hsh)).mono ?_;rintro e W4 ⟨rfl,hb4⟩;have q0:=(hb4.block _ (lt_of_block uO.out)).trans uO.out;have r0:=aj q0 (i:=0) rfl;have r1:=aA q0 (i:=0);have r2:=lt_of_block q0)
   exact Hw.out _ HQQ.out (aH.aS (V := λ b=>b=w.heap.size+1) hb4) q0
 case hdone =>
  rintro W3 hc ⟨h1,h2⟩ hD3;have r0:=aj h2 (i:=0) rfl;have r1:=aA h2 (i:=0);have r2:=lt_of_block h2
  dsimp only
  go_wp2_with fail
  have hD4:=(at_set (w:=W3) (p:=⟨w.heap.size+1,0,none⟩) (u := .bool true) (show W2.heap.size≠w.heap.size+1 by have:=HS2.out;omega)).trans hD3;have e4:(W3.setCell ⟨w.heap.size+1,0,none⟩ (.bool true)).heap[w.heap.size+1]?=some (.cells #[.bool true] 4 (0,0)):=by rw[aB h2];rfl
  have hc4:=(HB2.out.trans (hc.below (B:=w.heap.size) (λ b hb=>by omega) HB2.out.size)).setCell (p:=⟨w.heap.size+1,0,none⟩) (by simp) (.bool true);refine fZ rfl hD4 (v := .bool true) (λ w' hc'=>?_) (λ w' hc'=>⟨by unfold jP;rw[HFT.out,tH h1];rfl,hc4.trans (hc'.below (λ b hb=>by have:=HS2.out;omega) hc4.size)⟩);have:=aj (hc'.box e4 (by have:=HS2.out;omega)) (i:=0) rfl;simp[results,Tryz.results156,go_sem,this]
 case hstop =>
  rintro c W3 hc ⟨rfl,h1,h2⟩ hD3
  dsimp only
  go_wp2_with fail
  have hc4:=HB2.out.trans (hc.below (B:=w.heap.size) (λ b hb=>by omega) HB2.out.size);refine fZ rfl hD3 (v := .bool false) (λ w' hc'=>?_) (λ w' hc'=>⟨by unfold jP;rw[h1];simp,hc4.trans (hc'.below (λ b hb=>by have:=HS2.out;omega) hc4.size)⟩);have:=aj (hc'.box h2 (by have:=HS2.out;omega)) (i:=0) rfl;simp[results,Tryz.results156,go_sem,this]
end Go.Proofs.YtdpbgcmfeajigaaGreatDoor
