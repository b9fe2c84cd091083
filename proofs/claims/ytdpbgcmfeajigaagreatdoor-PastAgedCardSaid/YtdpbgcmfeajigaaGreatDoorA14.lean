/-
  Parts of a proof: HE HF.
-/
import Derived.Test.YtdpbgcmfeajigaaGreatDoorA13
set_option linter.unusedSimpArgs false
set_option linter.unusedVariables false
set_option maxHeartbeats 8000000
set_option maxRecDepth 100000
namespace Go.Proofs.YtdpbgcmfeajigaaGreatDoor
open Go.RowKit Go.Shelf
attribute [local go_sem] ak jR nV jQ tK
theorem dB.wrap {bb rb:Nat}{k:Fm}{left:Int}{ov:Bool}{w W w5 w6:World}{v:Value}(h:dB bb k left ov W (.returned v) w5)(hW:aH (λ x=>x=bb) w W)(hrb:w.heap.size<=rb)(hrW:rb<W.heap.size)(hbb:bb<w.heap.size)(hset:aH (λ x=>x=rb) w5 w6) :
  dB bb k left ov w (.returned v) w6:=by
 obtain⟨hc,v',g,left',hv,⟨A,c,he,ha⟩,hb,hl,hm,hov⟩:=h;refine⟨(hW.trans hc).trans' hset λ x hx h=>by omega,v',g,left',hv,⟨A,c,he,?_⟩,hb.eu hset (by omega),hl,hm,hov⟩;exact(ha.nw hset λ x h=>by omega).base hW.size
theorem dB.val {bb:Nat}{k:Fm}{left:Int}{ov:Bool}{w w':World}{e:Ending}(h:dB bb k left ov w e w'):∃(g:Fm) (A:Option Addr) (c:Nat),e = .returned (.agg #[.int .i64 g.op,.string g.name,.int .i64 g.val,.int .i64 g.bound,.slice A g.args.length c]):=by
 obtain⟨_,v,g,l,rfl,⟨A,c,rfl,_⟩,_⟩:=h;exact⟨g,A,c,rfl⟩
theorem bZ.lit {W:World}{base k n:Nat}{gs:List Fm}{sl:List (Option Addr×Nat)}{cs:Array Value}(hk:W.heap[k]?=some (.cells cs 24 (0,0)))(hcs:cs.toList=bQ gs sl)(hsl:sl.length=gs.length)(hb:base<=k)(hn:n=gs.length)(hl:n<=1000000)
  (ha:∀i,i<gs.length->bZ W (Nw base W) (gs.getD i default).args (sl.getD i (none,0)).1 (sl.getD i (none,0)).2):bZ W (Nw base W) gs (some ⟨k,0,none⟩) n:=by
 subst hn;refine .mk gs _ _ sl hsl ⟨⟨iM hsl,by omega,Nat.le_refl _,by omega⟩,λ _=>⟨k,0,rfl,⟨hb,_,_,hk⟩,lt_of_block hk,λ j u hu=>?_⟩⟩ ha;rw[Nat.zero_add];refine aj hk ?_;rw[<-hcs]at hu;simpa using hu
theorem Vr (bb:Nat)(k:Fm){b o:Nat}{neg:Bool}{left d:Int}{w:World}(hB:BB w bb left true)(hm : -1<=left) :
  Calls Tryz.prog 73 #[.pointer (some ⟨bb,0,none⟩),.pointer (some ⟨b,o,none⟩),.bool neg,.int .i64 d] w (dB bb k left true w):=by
 have HB:=hid hB;have hbl:=lt_of_block hB;clear hB
 go_enter Tryz.func73,Tryz.ntmps73
 go_upto_region 1 with(fail)
 refine aC λ W hW=>?_;have HW:=hid (show aH (λ x=>x=bb) w W by rw[hW];exact(aH.refl _ w).alloc _);have gY:=hid (show OB W w.heap.size 0 ⟨#[]⟩ 0 0 none 0 0 by rw[hW];exact at_new _ _ _ rfl);have hbw:=HB.out.below (show Below w.heap.size w W by rw[hW];go_grown);have b1:=aj hbw (i:=1) rfl;obtain⟨r0,r1,r2,r3,r4,rl⟩:=gY.out.cells;have p0:=gY.out.free 0;have p1:=gY.out.free 1;have p2:=gY.out.free 2;have p3:=gY.out.free 3;have p4:=gY.out.free 4;have aT:=hid hbw;clear hW hbw;go_wp2_with fail
 refine aK λ WE fD=>?_;have jl:OB WE w.heap.size 0 ⟨#[]⟩ 0 0 none 0 0:=by rw[fD];exact bF gY.out
 have hcE:aH (λ x=>x=w.heap.size) W WE:=by rw[fD];exact aN _ _ _ _ _ _ _
 obtain⟨y0,y1,y2,y3,y4,yl⟩:=jl.cells;clear fD
 exact bodyPost_ret (v := .agg #[.int .i64 0,.string ⟨#[]⟩,.int .i64 0,.int .i64 0,.slice none 0 0]) (by simp[results,Tryz.results73,go_sem,y0,y1,y2,y3,y4]) rfl
  (dB.zero (rb:=0) (HW.out.trans' hcE λ x hx h=>by omega) (aT.out.eu hcE (by omega)) (Int.le_refl _) hm)
theorem YM (bb:Nat)(f g:Fm)(hf:f.args = [g])(h4:f.op=4)(ih:zO bb g)
  {D:Dom} {b o:Nat} {A:Option Addr} {c:Nat} {neg:Bool} {left d:Int} {w:World}
  (h:dU w D b o f A c) (hD:∀k,D k->k≠bb) (hB:BB w bb left false) (hl0:0<=left) (hl2:left<=1000000) (hd1 : -1000000<=d) (hd2:d<=1000000) :
  Calls Tryz.prog 73 #[.pointer (some ⟨bb,0,none⟩),.pointer (some ⟨b,o,none⟩),.bool neg,.int .i64 d] w (dB bb (kf (!neg) g) left (!bK (kf (!neg) g) left d) w):=by
 have HH:=hid h;have HB:=hid hB;have hbl:=lt_of_block hB;clear hB h
 go_enter Tryz.func73,Tryz.ntmps73
 go_upto_region 1 with(fail)
 refine aC λ W hW=>?_;have HW:=hid (show aH (λ x=>x=bb) w W by rw[hW];exact(aH.refl _ w).alloc _);have gY:=hid (show OB W w.heap.size 0 ⟨#[]⟩ 0 0 none 0 0 by rw[hW];exact at_new _ _ _ rfl);have hbw:=HB.out.below (show Below w.heap.size w W by rw[hW];go_grown);have Uj:=HH.out.keep (HW.out.keeps λ k _ hk hv=>hD k hk hv);have hsz:W.heap.size=w.heap.size+1:=by rw[hW];simp
 have b1:=aj hbw (i:=1) rfl;have hargs:=Uj.args;rw[hf]at hargs;obtain⟨b1',o1,A1,c1,g',rfl,hx,hg⟩:=hargs.get (k:=0) (by simp);obtain rfl:g=g':=by have:=hx.out;simpa using this
 rw[Nat.zero_mul,Nat.add_zero]at hg;have HC:=hid (ih D b1' o1 A1 c1 (!neg) false left d W hg hD hbw (λ _=>hl0) (by omega) hl2 hd1 hd2);obtain⟨q1,q2,c0,Vf,Vg,TT,c4,q3⟩:=Uj;rw[h4]at c0;have hlen:f.args.length=1:=by rw[hf];rfl
 rw[hlen]at c4;have jI:=hid hsz;clear hW hbw hargs hx q3 hf hlen hsz;go_wp2_with (first|(go_at_call 73;refine HC.out.mono ?_;intro e w5 hs5;have hv5:=hs5.val;obtain⟨g5,A5,c5,rfl⟩:=hv5;have fQ:=gY.out.eu hs5.1 (by omega);obtain⟨r0,r1,r2,r3,r4,rl⟩:=fQ.cells;have p0:=fQ.free 0;have p1:=fQ.free 1;have p2:=fQ.free 2;have p3:=fQ.free 3;have p4:=fQ.free 4))
 refine aK λ WE fD=>?_;have jl:OB WE w.heap.size g5.op g5.name g5.val g5.bound A5 g5.args.length c5:=by rw[fD];exact bF fQ
 have hcE:aH (λ x=>x=w.heap.size) w5 WE:=by rw[fD];exact aN _ _ _ _ _ _ _
 obtain⟨y0,y1,y2,y3,y4,yl⟩:=jl.cells;clear fD r0 r1 r2 r3 r4 p0 p1 p2 p3 p4
 exact bodyPost_ret (v := .agg #[.int .i64 g5.op,.string g5.name,.int .i64 g5.val,.int .i64 g5.bound,.slice A5 g5.args.length c5]) (by simp[results,Tryz.results73,go_sem,y0,y1,y2,y3,y4]) rfl
  (dB.wrap hs5 HW.out (Nat.le_refl _) (by have:=jI.out;omega) hbl hcE)
end Go.Proofs.YtdpbgcmfeajigaaGreatDoor
namespace Go.Proofs.YtdpbgcmfeajigaaGreatDoor
open Go.RowKit Go.Shelf
attribute [local go_sem] ak jR nV jQ tK xR
theorem RF (n:ByteArray)(v left d:Int):(!bK (kV 4 [Xt n v]) left d)=(eP left false d || eP (left-1) false (d-1)):=by
 have h1:(!bK (kV 4 [Xt n v]) left d)=Gh [Xt n v] left d:=KE _ _ _ _ _ _ _;rw[h1,Bd _ rfl]
theorem Q8 (bb:Nat)(f:Fm)(h3:f.op=3)
  {D:Dom} {b o:Nat} {A:Option Addr} {c:Nat} {left d:Int} {w:World}
  (h:dU w D b o f A c) (hD:∀k,D k->k≠bb) (hB:BB w bb left false) (hl0:0<=left) (hl2:left<=1000000) (hd1 : -1000000<=d) (hd2:d<=1000000) :
  Calls Tryz.prog 73 #[.pointer (some ⟨bb,0,none⟩),.pointer (some ⟨b,o,none⟩),.bool true,.int .i64 d] w (dB bb (kV 4 [Xt f.name f.val]) left (!bK (kV 4 [Xt f.name f.val]) left d) w):=by
 rw[RF];have HH:=hid h;have HD:=hid hD;have HB:=hid hB;have hbl:=lt_of_block hB;clear hB h
 go_enter Tryz.func73,Tryz.ntmps73
 go_upto_region 1 with(fail)
 refine aC λ W hW=>?_;have HW:=hid (show aH (λ x=>x=bb) w W by rw[hW];exact(aH.refl _ w).alloc _);have gY:=hid (show OB W w.heap.size 0 ⟨#[]⟩ 0 0 none 0 0 by rw[hW];exact at_new _ _ _ rfl);have hbw0:b<w.heap.size:=HH.out.lt;have aT:=hid (HB.out.below (show Below w.heap.size w W by rw[hW];go_grown));have jI:=hid (show W.heap.size=w.heap.size+1 by rw[hW];simp);have HT:=hid (take_any bb left d false W aT.out (by omega) (by omega));obtain⟨q1,q2,c0,Vf,Vg,TT,c4,q3⟩:=HH.out.keep (HW.out.keeps λ k _ hk hv=>HD.out k hk hv);rw[h3]at c0;have b1:=aj aT.out (i:=1) rfl;have hwd:=IntWalk.i64_in (d-1) (by omega);clear hW q3 Vf Vg TT;obtain⟨t1,ht1⟩:∃t1,eP left false d=t1:=⟨_,rfl⟩;rw[ht1]at HT⊢
 have HT1:=hid ht1;clear ht1;obtain⟨rb,hrb⟩:∃rb,rb=w.heap.size:=⟨_,rfl⟩;have wI:=hid hrb;have nZ:¬rb=bb:=by omega
 rw[<-hrb]at gY;cases t1
 rotate_left
 ·rw[<-hrb]
  clear hrb;go_wp2_with (first|(go_at_call 110;(with_reducible refine HT.out.mono ?_);rintro e w1 ⟨rfl,hc1,hb1⟩;have fQ:=gY.out.eu hc1 nZ;obtain⟨r0,r1,r2,r3,r4,rl⟩:=fQ.cells;have p0:=fQ.free 0;have p1:=fQ.free 1;have p2:=fQ.free 2;have p3:=fQ.free 3;have p4:=fQ.free 4))
  refine aK λ WE fD=>?_;have jl:OB WE rb 0 ⟨#[]⟩ 0 0 none 0 0:=by rw[fD];exact bF fQ
  have hcE:aH (λ x=>x=rb) w1 WE:=by rw[fD];exact aN _ _ _ _ _ _ _
  obtain⟨y0,y1,y2,y3,y4,yl⟩:=jl.cells;clear fD r0 r1 r2 r3 r4 p0 p1 p2 p3 p4
  exact bodyPost_ret (v := .agg #[.int .i64 0,.string ⟨#[]⟩,.int .i64 0,.int .i64 0,.slice none 0 0]) (by simp[results,Tryz.results73,go_sem,y0,y1,y2,y3,y4]) rfl
   (by rw[HT1.out,Bool.true_or];exact dB.zero (rb:=0) (left':=left-1) ((HW.out.trans hc1).trans' hcE λ x hx h=>absurd (show x=rb from h) (by have:=wI.out;omega)) (BB.eu hb1 hcE (λ h=>nZ h.symm)) (by omega) (by omega))
 ·have XK:=hid (show 1<=left/\1<=d by have:=HT1.out;unfold eP at this;simp at this;omega)
  have HT2:=hid (λ (V:World) (hV:BB V bb (left-1) false)=>take_any bb (left-1) (d-1) false V hV (by omega) (by omega));obtain⟨t2,ht2⟩:∃t2,eP (left-1) false (d-1)=t2:=⟨_,rfl⟩;rw[ht2]at HT2;rw[ht2];have X5:=hid ht2;clear ht2;rw[<-hrb];clear hrb;cases t2
  rotate_left
  ·go_wp2_with (first|(go_at_call 110;(with_reducible refine HT.out.mono ?_);rintro e w1 ⟨rfl,hc1,hb1⟩)|(go_at_call 110;(with_reducible refine(HT2.out _ hb1).mono ?_);rintro e w2 ⟨rfl,hc2,hb2⟩;have fQ:=(gY.out.eu hc1 nZ).eu hc2 nZ;obtain⟨r0,r1,r2,r3,r4,rl⟩:=fQ.cells;have p0:=fQ.free 0;have p1:=fQ.free 1;have p2:=fQ.free 2;have p3:=fQ.free 3;have p4:=fQ.free 4))
   refine aK λ WE fD=>?_;have jl:OB WE rb 0 ⟨#[]⟩ 0 0 none 0 0:=by rw[fD];exact bF fQ
   have hcE:aH (λ x=>x=rb) w2 WE:=by rw[fD];exact aN _ _ _ _ _ _ _
   obtain⟨y0,y1,y2,y3,y4,yl⟩:=jl.cells;clear fD r0 r1 r2 r3 r4 p0 p1 p2 p3 p4
   exact bodyPost_ret (v := .agg #[.int .i64 0,.string ⟨#[]⟩,.int .i64 0,.int .i64 0,.slice none 0 0]) (by simp[results,Tryz.results73,go_sem,y0,y1,y2,y3,y4]) rfl
    (by rw[HT1.out,X5.out,Bool.or_true];exact dB.zero (rb:=0) (left':=left-1-1) (((HW.out.trans hc1).trans hc2).trans' hcE λ x hx h=>absurd (show x=rb from h) (by have:=wI.out;omega)) (BB.eu hb2 hcE (λ h=>nZ h.symm)) (by omega) (by have:=XK.out;omega))
  ·go_upto_region 8 with(first|(go_at_call 110;(with_reducible refine HT.out.mono ?_);rintro e w1 ⟨rfl,hc1,hb1⟩)|(go_at_call 110;(with_reducible refine(HT2.out _ hb1).mono ?_);rintro e w2 ⟨rfl,hc2,hb2⟩))
   have HC2:=hid ((HW.out.trans hc1).trans hc2);have Dl:=hid ((gY.out.eu hc1 nZ).eu hc2 nZ);have HB2:=hid hb2;obtain⟨q1,q2,c0,Vf,Vg,TT,c4,q3⟩:=HH.out.keep (HC2.out.keeps λ k _ hk hv=>HD.out k hk hv);obtain⟨r0,r1,r2,r3,r4,rl⟩:=Dl.out.cells;have p0:=Dl.out.free 0;have p1:=Dl.out.free 1;have p2:=Dl.out.free 2;have p3:=Dl.out.free 3;have p4:=Dl.out.free 4;clear hc1 hc2 hb1 hb2 q3 c0 TT c4 b1;have hrb1:¬rb=b:=by have:=wI.out;omega
   have hrb2:¬b=rb := λ h=>hrb1 h.symm
   go_region_held3 (λ W':World=>W'.cell? ⟨b,o+1,none⟩=some (.string f.name)/\W'.cell? ⟨b,o+2,none⟩=some (.int .i64 f.val))
    (first|(go_keep;done))
    (fail)
   refine yS λ W8 uV=>?_
   have hcs:aH (λ x=>x=rb) w2 W8:=by
    rw[uV];exact((aN _ _ _ _ _ _ _).alloc _).drew
   have jl:OB W8 rb 4 ⟨#[]⟩ 0 0 (some ⟨w2.heap.size,0,none⟩) 1 1:=by
    rw[uV];exact(bF Dl.out).alloc _
   have hnew:W8.heap[w2.heap.size]?=some (.cells #[.int .i64 3,.string f.name,.int .i64 f.val,.int .i64 0,.slice none 0 0] 24 (0,0)):=by
    rw[uV];exact at_new _ _ _ (by simp)
   obtain⟨y0,y1,y2,y3,y4,yl⟩:=jl.cells
   have hrd:bZ W8 (Nw w.heap.size W8) [Xt f.name f.val] (some ⟨w2.heap.size,0,none⟩) 1:=bZ.lit (sl := [(none,0)]) hnew rfl rfl HC2.out.size rfl (by omega) λ i hi=>by
    obtain rfl:i=0:=by simpa using hi
    exact bZ.nil _ _ _ (Nat.zero_le _)
   have hfin:dB bb (kV 4 [Xt f.name f.val]) left (eP left false d || eP (left-1) false (d-1)) w (.returned (.agg #[.int .i64 4,.string ⟨#[]⟩,.int .i64 0,.int .i64 0,.slice (some ⟨w2.heap.size,0,none⟩) 1 1])) W8:=by
    rw[HT1.out,X5.out];refine⟨HC2.out.trans' hcs λ x hx h=>by have:=wI.out;omega,_,kV 4 [Xt f.name f.val],left-1-1,rfl,⟨_,1,rfl,hrd⟩,BB.eu HB2.out hcs (λ h=>nZ h.symm),by omega,by have:=XK.out;omega,λ _=>⟨rfl,?_,?_⟩⟩
    ·simp[kV,Xt,Fm.size,sizes];omega
    ·have:=X5.out
     unfold eP at this;simp at this;omega
   clear uV hcs jl hnew hrd r0 r1 r2 r3 r4 p0 p1 p2 p3 p4;go_wp2_with fail
   exact bodyPost_ret (v := .agg #[.int .i64 4,.string ⟨#[]⟩,.int .i64 0,.int .i64 0,.slice (some ⟨w2.heap.size,0,none⟩) 1 1]) (by simp[results,Tryz.results73,go_sem,y0,y1,y2,y3,y4]) rfl hfin
end Go.Proofs.YtdpbgcmfeajigaaGreatDoor
