/-
  What a call may change; walk of within and of its closure.
-/
import Derived.Test.YtdpbgcmfeajigaaGreatDoorA02
set_option linter.unusedSimpArgs false
set_option linter.unusedVariables false
set_option maxHeartbeats 8000000
set_option maxRecDepth 100000
namespace Go.Proofs.YtdpbgcmfeajigaaGreatDoor
open Go.RowKit
attribute [local go_sem] ak
structure aH (V:Dom) (w w':World):Prop where
 os:w'.os=w.os
 tape:w'.tape=w.tape
 output:w'.output=w.output
 size:w.heap.size<=w'.heap.size
 block:∀b,b<w.heap.size->¬V b->w'.heap[b]?=w.heap[b]?
section
variable {V U:Dom}{w w' w'':World}
theorem aH.refl (V:Dom)(w:World):aH V w w:=⟨rfl,rfl,rfl,Nat.le_refl _,λ _ _ _=>rfl⟩
theorem aH.trans (h:aH V w w')(k:aH V w' w''):aH V w w'' :=
 ⟨k.os.trans h.os,k.tape.trans h.tape,k.output.trans h.output,Nat.le_trans h.size k.size,λ b hb hv=>(k.block b (Nat.lt_of_lt_of_le hb h.size) hv).trans (h.block b hb hv)⟩
theorem aH.mono (h:aH V w w')(hu:∀b,b<w.heap.size->V b->U b):aH U w w':=⟨h.os,h.tape,h.output,h.size,λ b hb hv=>h.block b hb λ x=>hv (hu b hb x)⟩
theorem aH.trans' (h:aH V w w')(k:aH U w' w'')(hu:∀b,b<w.heap.size->U b->V b):aH V w w'' :=
 ⟨k.os.trans h.os,k.tape.trans h.tape,k.output.trans h.output,Nat.le_trans h.size k.size,λ b hb hv=>(k.block b (Nat.lt_of_lt_of_le hb h.size) (λ x=>hv (hu b hb x))).trans (h.block b hb hv)⟩
theorem aH.aS (h:Below w.heap.size w w'):aH V w w':=⟨h.os,h.tape,h.output,h.size,λ b hb _=>h.block b hb⟩
theorem aH.below {B:Nat}(h:aH V w w')(hV:∀b,b<B->¬V b)(hB:B<=w.heap.size):Below B w w':=⟨h.os,h.tape,h.output,h.size,λ b hb=>h.block b (Nat.lt_of_lt_of_le hb hB) (hV b hb)⟩
theorem aH.alloc (h:aH V w w')(o:Obj):aH V w (w'.alloc o):=h.trans (aH.aS ((Below.refl _ _).alloc (Nat.le_refl _) o))
theorem aH.drew (h:aH V w w'):aH V w w'.drew:=⟨h.os,h.tape,h.output,h.size,h.block⟩
theorem aH.drewN (h:aH V w w')(n:Nat):aH V w (w'.drewN n):=⟨h.os,h.tape,h.output,h.size,h.block⟩
theorem aH.drawn (h:aH V w w')(k:aU w' w''):aH V w w'':=h.trans (aH.aS (k.below _))
theorem aH.set (h:aH V w w')(p:Addr)(u:Value)(hp:p.block<w.heap.size->V p.block):aH V w (w'.setCell p u) :=
 ⟨h.os,h.tape,h.output,by simpa using h.size,λ b hb hv=>by
  have hne:b≠p.block := λ e=>hv (e ▸ hp (e ▸ hb))
  rw[Below.heap_setCell _ _ _ _ hne];exact h.block b hb hv⟩
theorem aH.grown {row:Option Nat}(h:aH V w w')(hg:w'.grownBy w'' row)(hr:∀k,row=some k->k<w.heap.size->V k):aH V w w'' :=
 h.trans' (U := λ b=>row=some b) ⟨hg.os,hg.tape,hg.output,hg.size,λ b hb hv=>hg.block b hb (λ e=>hv e.symm)⟩ (λ b hb e=>hr b e hb)
theorem aH.keeps {D:Dom}(h:aH V w w')(hd:∀b,b<w.heap.size->D b->¬V b):Keeps D w w':=⟨h.size,λ b hb hl=>h.block b hl (hd b hl hb)⟩
theorem aH.box {b:Nat}{o:Obj}(h:aH V w w')(hb:w.heap[b]?=some o)(hv:¬V b):w'.heap[b]?=some o:=(h.block b (lt_of_block hb) hv).trans hb
end
theorem run_store_func {P:Program}{w:World}{a:Addr}{m:Mode}(f:Fn)(ts vs:Array Value):(store a (.func f ts vs) m).run P w=stored P w a (.func f ts vs) m:=run_store P w a _ m rfl
attribute [local go_sem] run_store_func
def bK (f:Fm)(s d:Int):Bool:=decide ((f.size:Int)<=s)&&decide ((f.depth:Int)<=d)
theorem oK:∀l m:List Fm,depths (l++m)=max (depths l) (depths m)
 | [],m=>by simp[depths]
 | f :: l,m=>by simp only[List.cons_append,depths,oK l m];omega
theorem DF (l:List Fm){i:Nat}(hi:i<l.length):depths (l.take (i+1))=max (depths (l.take i)) (l.getD i default).depth:=by
 rw[bP l default hi,oK];simp[depths]
theorem Nz (l:List Fm)(i:Nat):depths (l.take i)<=depths l:=by
 have:=oK (l.take i) (l.drop i);rw[List.take_append_drop]at this;omega
theorem Ei {f:Fm}{s d:Int}(h:¬(f.size:Int)<=s):bK f s d=false:=by unfold bK;rw[decide_eq_false h];rfl
theorem Cc {f:Fm}{s d:Int}(h:¬(f.depth:Int)<=d):bK f s d=false:=by unfold bK;rw[decide_eq_false h];simp
theorem gJ {f:Fm}{s d:Int}:bK f s d=true ↔ (f.size:Int)<=s/\(f.depth:Int)<=d:=by simp[bK]
theorem fits_any (f:Fm):∀(b o:Nat) (A:Option Addr) (c:Nat) (s d:Int) (sb fb:Nat) (w:World) (h:dU w (λ k=>k≠sb) b o f A c) (hs:w.heap[sb]?=some (.cells #[.int .i64 s] 3 (0,0)))
  (hf:w.heap[fb]?=some (.cells #[.func (.func 118) #[] #[.pointer (some ⟨sb,0,none⟩),.pointer (some ⟨fb,0,none⟩)]] 145 (0,0))) (hne:fb≠sb) (s0:0<=s) (s1:s<=1000000) (d0:0<=d) (d1:d<=1000000),
  Calls Tryz.prog 118 #[.pointer (some ⟨b,o,none⟩),.int .i64 d,.pointer (some ⟨sb,0,none⟩),.pointer (some ⟨fb,0,none⟩)] w
   λ e w'=>e = .returned (.bool (bK f s d))/\aH (λ k=>k=sb) w w'/\(bK f s d=true->w'.heap[sb]?=some (.cells #[.int .i64 (s-f.size)] 3 (0,0))):=by
 refine Fm.induct (P := λ f=>∀(b o:Nat) (A:Option Addr) (c:Nat) (s d:Int) (sb fb:Nat) (w:World) (h:dU w (λ k=>k≠sb) b o f A c) (hs:w.heap[sb]?=some (.cells #[.int .i64 s] 3 (0,0)))
  (hf:w.heap[fb]?=some (.cells #[.func (.func 118) #[] #[.pointer (some ⟨sb,0,none⟩),.pointer (some ⟨fb,0,none⟩)]] 145 (0,0))) (hne:fb≠sb) (s0:0<=s) (s1:s<=1000000) (d0:0<=d) (d1:d<=1000000),
  Calls Tryz.prog 118 #[.pointer (some ⟨b,o,none⟩),.int .i64 d,.pointer (some ⟨sb,0,none⟩),.pointer (some ⟨fb,0,none⟩)] w
   λ e w'=>e = .returned (.bool (bK f s d))/\aH (λ k=>k=sb) w w'/\(bK f s d=true->w'.heap[sb]?=some (.cells #[.int .i64 (s-f.size)] 3 (0,0)))) ?_ f
 intro f ih b o A c s d sb fb w h hs hf hne s0 s1 d0 d1;have HIH:=hid ih;have jI:=hid (Fm.size_eq f);have HDP:=hid (Fm.jr f);have uM:=hid (ji f.args);have z0:=aj hs (i:=0) rfl;have z1:=aA hs (i:=0);have wL:=hid hne;have HS:=hid hs;have HF:=hid hf;have HH:=hid h;have hal:=h.args.len.1;clear ih h hs hf hne
 go_enter Tryz.func118,Tryz.ntmps118
 go_upto_region 2 with(fail)
 refine aC λ W hW=>?_;have BL:=hid (show W.heap[sb]?=some (.cells #[.int .i64 (s-1)] 3 (0,0))by rw[hW,aB HS.out];rfl);have HCW:=hid (show aH (λ k=>k=sb) w W by rw[hW];exact(aH.refl _ w).set _ _ λ _=>rfl);clear hW z0 z1;have HFW:=hid ((HCW.out.box HF.out wL.out));have HHW:=hid (HH.out.keep (HCW.out.keeps λ k _ h=>h));obtain⟨hd,hl,c0,c1,c2,c3,c4,ha⟩:=HHW.out;have z0:=aj BL.out (i:=0) rfl;have HA:=hid ha;clear ha hd c0 c1 c2 c3
 by_cases hlt:s-1<f.args.length
 ·have dl:decide (s-1<(f.args.length:Int))=true:=decide_eq_true hlt
  have HR:=hid (Ei (f:=f) (s:=s) (d:=d) (by have:=jI.out;have:=uM.out;omega))
  go_quiet (fail)
  go_wp2_with fail
  go_ret
  rw[HR.out];exact⟨rfl,HCW.out.drewN _,λ h=>by cases h⟩
 ·have dl:decide (s-1<(f.args.length:Int))=false:=decide_eq_false hlt
  by_cases hd1:d<1
  ·have dd:decide (d<1)=true:=decide_eq_true hd1
   have HR:=hid (Cc (f:=f) (s:=s) (d:=d) (by have:=HDP.out;omega))
   go_quiet (fail)
   go_wp2_with fail
   go_ret
   rw[HR.out];exact⟨rfl,HCW.out.drewN _,λ h=>by cases h⟩
  ·have dd:decide (d<1)=false:=decide_eq_false hd1
   go_quiet (fail)
   obtain⟨W2,hW2,hdr⟩:∃W9,W9=W.drewN nq/\aU W W9:=⟨_,rfl,nq,rfl⟩;rw[<-hW2];have HC2:=hid (HCW.out.drawn hdr);have HS2:=hid ((hdr.below (W.heap.size)).block _ (lt_of_block BL.out) |>.trans BL.out);have HF2:=hid ((hdr.below (W.heap.size)).block _ (lt_of_block HFW.out) |>.trans HFW.out);have HH2:=hid (HHW.out.keep hdr.keeps);obtain⟨hd',hl',c0',c1',c2',c3',Xn,ha'⟩:=HH2.out;have HA2:=hid ha';clear ha' hd' c0' c1' c2' c3' hW2 hdr z0 c4 hl;have dX:=hid hlt;have HD1:=hid hd1;clear dl dd hlt hd1;obtain⟨_,hl3,_,_,_,_,c4,_⟩:=HH2.out;go_wp2_with fail
   go_loopw [26] (λ q wr=>∃i:Nat,i<=f.args.length/\q = .int .i64 (i:Int)/\aH (λ k=>k=sb) W2 wr/\(sizes (f.args.take i):Int)<=s-1/\(depths (f.args.take i):Int)<=d-1/\wr.heap[sb]?=some (.cells #[.int .i64 (s-1-sizes (f.args.take i))] 3 (0,0))) (λ q _=>f.args.length-(intOf q).toNat)
   case atStart=>exact⟨0,Nat.zero_le _,rfl,aH.refl _ _,by simp[sizes];have:=dX.out;omega,by simp[depths];have:=HD1.out;omega,by rw[HS2.out];simp[sizes]⟩
   case round =>
    obtain⟨i,hi,rfl,hc,hz,hdp,hs⟩:=hrel;have EL:=hid (HC2.out.trans hc);have HCRW:=hid hc;have MB:=hid (hc.box HF2.out wL.out);have HSR:=hid hs;have HZ:=hid hz;have HDZ:=hid hdp;obtain⟨hdr',hlr,c0',c1',c2',c3',Xn,ha'⟩:=HH2.out.keep (hc.keeps λ k _ h=>h);have Pq:=hid ha';have qeZ:=Xn;clear ha' hdr' c0' c1' c2' c3' hc hs hz hdp c4
    by_cases uj:i<f.args.length
    ·have hii:(i:Int)<f.args.length:=by omega
     obtain⟨b1,o1,A1,c1,g,rfl,HG,hg⟩:=Pq.out.get uj;have rO:=hid (rE f.args uj);have Hu:=hid (DF f.args uj);have XI:=hid (HIH.out i uj);rw[HG.out]at rO Hu XI;have f0:=aj MB.out (i:=0) rfl;obtain⟨s2,hs2⟩:∃x:Int,x=s-1-sizes (f.args.take i):=⟨_,rfl⟩;have qaU:=hid hs2;have qdw:=hid HSR.out;rw[<-hs2]at qdw;clear hs2
     have aX:Hid (∀W',aU wr W'->Calls Tryz.prog 118 #[.pointer (some ⟨b1,o1+i*5,none⟩),.int .i64 (d-1),.pointer (some ⟨sb,0,none⟩),.pointer (some ⟨fb,0,none⟩)] W'
       λ e w'=>e = .returned (.bool (bK g s2 (d-1)))/\aH (λ k=>k=sb) wr w'/\(bK g s2 (d-1)=true->w'.heap[sb]?=some (.cells #[.int .i64 (s2-g.size)] 3 (0,0)))):=hid λ W' hdw=>by
      refine(XI.out b1 (o1+i*5) A1 c1 s2 (d-1) sb fb W' (hg.keep hdw.keeps) ((hdw.below wr.heap.size).block _ (lt_of_block qdw.out) |>.trans qdw.out) ((hdw.below wr.heap.size).block _ (lt_of_block MB.out) |>.trans MB.out) wL.out (by rw[qaU.out];have:=HZ.out;omega) (by rw[qaU.out];omega) (by have:=HD1.out;omega) (by omega)).mono ?_;rintro e w' ⟨rfl,hc,hx⟩;exact⟨rfl,((aH.refl _ wr).drawn hdw).trans hc,hx⟩
     have HBN:=hid HH2.out.dom;have c4:=qeZ
     have aI:Hid (∀W':World,aH (λ k=>k=sb) wr W'->W'.cell? ⟨fb,0,none⟩=some (.func (.func 118) #[] #[.pointer (some ⟨sb,0,none⟩),.pointer (some ⟨fb,0,none⟩)])/\W'.cell? ⟨b,o+4,none⟩=some (.slice (some ⟨b1,o1,none⟩) f.args.length c)):=hid λ W' hc =>
      ⟨aj (hc.box MB.out wL.out) (i:=0) rfl,(hc.keeps (D := λ k=>k≠sb) λ k _ h=>h).cell HBN.out c4⟩
     clear hg qeZ;have HI1:=hid (show aU wr wr.drew from(aU.refl wr).drew);have HI2:=hid (λ i=>aU.n wr i);have hwd:IntKind.i64.wrap (d-1)=d-1:=IntWalk.i64_in _ (by omega);go_upto_region 7 with(fail)
     go_region_held3 (λ W':World=>W'.cell? ⟨fb,0,none⟩=some (.func (.func 118) #[] #[.pointer (some ⟨sb,0,none⟩),.pointer (some ⟨fb,0,none⟩)])/\W'.cell? ⟨b,o+4,none⟩=some (.slice (some ⟨b1,o1,none⟩) f.args.length c))
      (first|(with_reducible exact aI.out _ hI)|(go_keep;done))
      ((go_at_call 118;with_reducible refine(aX.out _ (by first|exact HI1.out|exact HI2.out _)).mono ?_;rintro e W9 ⟨rfl,hI,hJ⟩))
     all_goals
      have Qo:=hid hI;have Xg:=hid hJ;clear hI hJ f0 c4 Xn;cases hfit:bK g s2 (d-1)
      ·have HR:=hid (show bK f s d=false by
        cases hb:bK f s d
        ·rfl
        ·exfalso
         have h1:=gJ.1 hb;have h2:=vJ f.args (i+1);have h3:=Nz f.args (i+1);have h4:=rO.out;have h5:=Hu.out;have h6:=jI.out;have h7:=HDP.out;have h8:=qaU.out;rw[gJ.2 ⟨by omega,by omega⟩]at hfit
         cases hfit)
       go_wp2_with fail
       go_ret
       rw[HR.out];exact⟨rfl,EL.out.trans Qo.out,λ h=>by cases h⟩
      ·have HFT:=hid (gJ.1 hfit)
       have HSN2:=hid (Xg.out hfit);clear Xg;go_wp2_with fail
       go_roundw
       case rel =>
        have h4:=rO.out;have h5:=Hu.out;have h8:=qaU.out;have h9:=HFT.out;have h10:=HDZ.out;exact⟨i+1,by omega,by go_num,HCRW.out.trans Qo.out,by omega,by omega,by rw[HSN2.out];congr 5;omega⟩
       case measure=>simp[intOf];omega
    ·have hie:f.args.take i=f.args:=List.take_of_length_le (by omega)
     have hnl:¬(i:Int)<f.args.length:=by omega
     have HR:=hid (gJ.2 (show(f.size:Int)<=s/\(f.depth:Int)<=d by have:=HZ.out;have:=HDZ.out;rw[hie]at *;have:=jI.out;have:=HDP.out;have:=HD1.out;omega));have HSR2:=hid (show wr.heap[sb]?=some (.cells #[.int .i64 (s-f.size)] 3 (0,0))by rw[HSR.out,hie,jI.out];congr 5;omega);clear hie;go_wp2_with fail
     go_ret
     rw[HR.out];exact⟨rfl,EL.out,λ _=>HSR2.out⟩
theorem zM {D:Dom}(f:Fm)(b o:Nat)(A:Option Addr)(c:Nat)(s d:Int)(w:World)(h:dU w D b o f A c)(s0:0<=s)(s1:s<=1000000)(d0:0<=d)(d1:d<=1000000) :
  Calls Tryz.prog 80 #[.pointer (some ⟨b,o,none⟩),.int .i64 s,.int .i64 d] w λ e w'=>e = .returned (.bool (bK f s d))/\Below w.heap.size w w':=by
 have HH:=hid h.old;clear h
 go_enter Tryz.func80,Tryz.ntmps80
 go_upto_region 2 with(fail)
 refine aC λ W hW=>?_;obtain⟨w1,h1⟩:∃w1,w1=w.alloc (.cells #[.int .i64 s] 3):=⟨_,rfl⟩;have s1':w1.heap.size=w.heap.size+1:=by rw[h1];simp
 have hs1:w1.heap[w.heap.size]?=some (.cells #[.int .i64 s] 3 (0,0)):=by rw[h1];exact heap_alloc_new w _
 have b1:Below w.heap.size w w1:=by rw[h1];go_grown
 rw[<-h1]at hW;have b2:Below w1.heap.size w1 W:=by rw[hW];go_grown
 have hf1:W.heap[w.heap.size+1]?=some (.cells #[.nilFunc] 145 (0,0)):=by rw[hW,<-s1'];exact heap_alloc_new w1 _
 have hs2:W.heap[w.heap.size]?=some (.cells #[.int .i64 s] 3 (0,0)):=(b2.block _ (lt_of_block hs1)).trans hs1;have hbw:Below w.heap.size w W:=b1.trans (b2.mono b1.size);clear hW h1 b2 b1 hs1 s1';have z0:=aj hf1 (i:=0) rfl;have z1:=aA hf1 (i:=0);go_upto_region 3 with(fail)
 refine aC λ W3 hW=>?_
 have hs:W3.heap[w.heap.size]?=some (.cells #[.int .i64 s] 3 (0,0)):=by
  rw[hW,Below.heap_setCell _ _ _ _ (by simp)];exact hs2
 have hf:W3.heap[w.heap.size+1]?=some (.cells #[.func (.func 118) #[] #[.pointer (some ⟨w.heap.size,0,none⟩),.pointer (some ⟨w.heap.size+1,0,none⟩)]] 145 (0,0)):=by
  rw[hW,aB hf1];rfl
 have hb3:Below w.heap.size w W3:=by
  rw[hW];exact hbw.trans ((aH.set (V := λ k=>k=w.heap.size+1) (aH.refl _ W) _ _ λ _=>rfl).below (λ b hb=>by omega) (Nat.le_of_lt (Nat.lt_of_lt_of_le (lt_of_block hs2) (Nat.le_refl _))))
 clear hW z0 z1 hs2 hf1 hbw;have f0:=aj hf (i:=0) rfl;have aX:=hid (fits_any f b o A c s d w.heap.size (w.heap.size+1) W3 ((HH.out.keep (Keeps.of_below hb3 λ _ h=>h)).mono λ k hk _=>Nat.ne_of_lt hk) hs hf (by omega) s0 s1 d0 d1);have HB3:=hid hb3;clear hs hf hb3;go_wp2_with (first|(go_at_call 118;refine aX.out.mono ?_;rintro e W9 ⟨rfl,hI,hJ⟩))
 go_ret
 exact⟨rfl,HB3.out.trans (hI.below (λ b hb=>by omega) HB3.out.size)⟩
end Go.Proofs.YtdpbgcmfeajigaaGreatDoor
