/-
  Parts of a proof: FP FQ FR.
-/
import Derived.Test.YtdpbgcmfeajigaaGreatDoorP03
import Derived.Test.YtdpbgcmfeajigaaGreatDoorP06
set_option linter.unusedSimpArgs false
set_option linter.unusedVariables false
set_option maxHeartbeats 8000000
set_option maxRecDepth 100000
namespace Go.Proofs.YtdpbgcmfeajigaaGreatDoor
def cu (neg:Bool)(o:Int):Int:=if neg then TM (Fv o)else Fv o
def Rn (o:Int):Bool:=decide (o=15) || decide (o=16) || decide (o=17)
def uF (o:Int):Bool:=decide (o=11) || decide (o=12) || decide (o=18) || decide (o=19)
def mQ (neg:Bool)(o v:Int):Int:=if Rn o then(if neg then 1-v else v)else if uF o&&decide (cu neg o=17)then 1 else v
def oM (neg:Bool)(o:Int):List Fm:=if uF o then [jZ (if cu neg o=9\/cu neg o=16 then 1 else 2) []]else []
def nV (o:Int):Nat->Fm->Fm
 | 0,f=>f
 | n+1,f=>jZ o [f,jZ 8 [nV o n f]]
def YL (neg:Bool)(o:Int)(n:ByteArray)(v b:Int)(ga:List Fm):Fm :=
 if o=4 then ga.headD default
 else if o=3 then(if neg then jZ 4 [WX n v]else .mk 3 n v 0 ga)
 else if o=13\/o=14 then nV (cu neg o) b.toNat (ga.headD default)
 else .mk (cu neg o) n (mQ neg o v) 0 (oM neg o++ga)
mutual
def kf:Bool->Fm->Fm
 | neg,.mk o n v b l=>YL neg o n v b (Hq (if o=4\/o=7 then !neg else neg) (if o=4 then !neg else neg) l)
def Hq:Bool->Bool->List Fm->List Fm
 | _,_,[] => []
 | a,r,f :: l=>kf a f :: Hq r r l
end
def qQ (neg:Bool)(o:Int):Bool:=if o=4\/o=7 then !neg else neg
def pG (neg:Bool)(o:Int):Bool:=if o=4 then !neg else neg
theorem NT (neg:Bool)(f:Fm):kf neg f=YL neg f.op f.name f.val f.bound (Hq (qQ neg f.op) (pG neg f.op) f.args):=by
 cases f;simp only[kf,Fm.op,Fm.name,Fm.val,Fm.bound,Fm.args,qQ,pG];rfl
theorem KA:∀(a r:Bool) (l:List Fm),(Hq a r l).length=l.length
 | _,_,[]=>rfl
 | _,r,f :: l=>by simp only[Hq,List.length_cons,KA r r l]
theorem YN:∀(r:Bool) (l:List Fm),Hq r r l=l.map (kf r)
 | _,[]=>rfl
 | r,f :: l=>by simp only[Hq,YN r l,List.map_cons]
theorem qbr:∀(a r:Bool) (l:List Fm) (i:Nat),i<l.length->(Hq a r l).getD i default=kf (if i=0 then a else r) (l.getD i default)
 | _,_,[],i,h=>absurd h (Nat.not_lt_zero _)
 | a,r,f :: l,0,_=>by simp[Hq]
 | a,r,f :: l,i+1,h=>by
  have h':i<l.length:=by simpa using h
  simp only[Hq,YN,List.getD_cons_succ,List.getD_eq_getElem?_getD,List.getElem?_cons_succ,List.getElem?_map];simp[h']
theorem YO (a r:Bool)(l:List Fm){i:Nat}(h:i<l.length):(Hq a r l).take (i+1)=(Hq a r l).take i ++ [kf (if i=0 then a else r) (l.getD i default)]:=by
 rw[aT _ default (by rw[KA];exact h),qbr a r l i h]
end Go.Proofs.YtdpbgcmfeajigaaGreatDoor
namespace Go.Proofs.YtdpbgcmfeajigaaGreatDoor
open Go.RowKit Go.Shelf
attribute [local go_sem] ak Oper.semAt_some
def Af (g:Fm):Bool := !(decide (g.op=4) && !decide ((g.args.getD 0 default).op=3))
def bU (x:Fm×Bool):Bool:=(aI x.1.op).loose&&bQ x.1 && !((aI x.1.op).future&&x.2)&&Af x.1
theorem uO {g:Fm}(h:bQ g=true)(h4:g.op=4):0<g.args.length:=by
 unfold bQ at h;simp only[Bool.and_eq_true,decide_eq_true_eq]at h;have h1:=h.1.1.1.1.1.1.2;rw[h4]at h1;have:(aI 4).least=1:=by rfl
 omega
theorem MS {D:Dom}(f:Fm)(b o:Nat)(A:Option Addr)(c:Nat)(w:World)(h:dU w D b o f A c)(hg:GF w)(hk:GK w)(hd:f.depth<=5000) :
  Calls Tryz.prog 81 #[.pointer (some ⟨b,o,none⟩)] w fun e w'=>e = .returned (.bool (allB bU f))/\Below w.heap.size w w':=by
 have HH:=hid h.old;have HG:=hid hg;have HK:=hid hk;have HD:=hid hd;clear h hg hk hd;refine(callsIn_wide (n:=3)).1 (callsIn_of_wp_marks Tryz.func81 rfl trivial ?_ rfl);simp only[Tryz.ntmps81,List.size_toArray,List.length_cons,List.length_nil,Nat.reduceAdd,Nat.reduceSub,Array.replicate_succ,Array.replicate_zero,List.push_toArray,List.append_toArray,List.nil_append,List.cons_append];refine wpIn_wide.2 ?_;go_upto_region 1 with(fail)
 refine aH fun W hW=>?_;have hb:Below w.heap.size w W:=by rw[hW];go_grown
 have e1:W.heap[w.heap.size]?=some (.cells #[.bool false] 4 (0,0)):=by rw[hW];exact at_new _ _ _ rfl
 have hs:w.heap.size+1<=W.heap.size:=by rw[hW];simp
 have HB:=hid hb;have kP:=hid e1;have HS:=hid hs;clear hW hb e1 hs;go_wp2_with (first|(go_at_call 51;refine(qw _ W).mono ?_;rintro e w2 ⟨rfl,rfl⟩))
 refine aH fun W2 hW2=>?_;have hb2:Below W.heap.size W W2:=by rw[hW2];go_grown
 have hp2:W2.cell? ⟨W.heap.size,0,none⟩=some (.pointer (some ⟨b,o,none⟩)):=by rw[hW2];exact aj (at_new _ _ _ rfl) (i:=0) rfl
 have hs2:w.heap.size+2<=W2.heap.size:=by rw[hW2];simp;have:=HS.out;omega
 have HB2:=hid (HB.out.trans (hb2.mono HB.out.size));have hE1:W2.heap[w.heap.size]?=some (.cells #[.bool false] 4 (0,0)):=(hb2.block _ (by have:=HS.out;omega)).trans kP.out;have HF:=hid (HH.out.keep (Keeps.of_below HB2.out fun _ h=>h));have HP:=hid hp2;have HS2:=hid hs2;have tX:=hid hE1;have HG2:=hid (HG.out.below HB2.out HG.out.pos);have ED:=hid (HK.out.below HB2.out HK.out.pos);clear hW2 hb2 hp2 hs2 hE1
 refine lM f (b) (o) W.heap.size (w.heap.size) A c (fun b=>b=w.heap.size)
  (fun k W'=>uX bU f k/\W'.heap[w.heap.size]?=some (.cells #[.bool false] 4 (0,0)))
  (fun c W'=>c = .ret/\allB bU f=false/\W'.heap[w.heap.size]?=some (.cells #[.bool false] 4 (0,0)))
  rfl rfl HF.out (by have:=HG.out.pos;omega) (by have:=HS2.out;omega) HP.out HG2.out HD.out ?hZ ?hI ?hIx ⟨qE _ _,tX.out⟩ ?a1 ?hassign ?dP ?hdone ?hstop
 case hassign =>
  intro l p q W K hK
  gi_wp2
  exact hK
 case hZ=>intro b hb;have:=HS2.out;omega
 case hI=>rintro k W3 W4 ⟨h1,h2⟩ hc;exact⟨h1,hc.box h2 (by have:=HS2.out;omega)⟩
 case hIx=>rintro c W3 W4 ⟨h0,h1,h2⟩ hc;exact⟨h0,h1,hc.box h2 (by have:=HS2.out;omega)⟩
 case dP =>
  rintro l k W3 b o A' c' hs3 hg3 hc3 ⟨hk1,hk2⟩ hlen hf3;generalize hx:(dV false f).getD k default=x at hf3⊢;obtain⟨g,ins⟩:=x;have hq:bU ((dV false f).getD k default)=bU (g,ins):=by rw[hx]
  have O6:=hid hk1;have tY:=hid hk2;have HLEN:=hid hlen;have HQ:=hid hq;have AX:=hid hc3;clear hk1 hk2 hx hlen hq hc3;have OKE:∀W4:World,bU (g,ins)=true->aF (fun b=>b=w.heap.size) W3 W4->W4.heap[w.heap.size]?=some (.cells #[.bool false] 4 (0,0))->aF (fun b=>b=w.heap.size) W3 W4/\uX bU f (k+1)/\W4.heap[w.heap.size]?=some (.cells #[.bool false] 4 (0,0)):=fun W4 h1 h2 h3=>⟨h2,qC O6.out (HQ.out.trans h1),h3⟩
  have NOE:∀W4:World,bU (g,ins)=false->aF (fun b=>b=w.heap.size) W3 W4->W4.heap[w.heap.size]?=some (.cells #[.bool false] 4 (0,0))->aF (fun b=>b=w.heap.size) W3 W4/\allB bU f=false/\W4.heap[w.heap.size]?=some (.cells #[.bool false] 4 (0,0)):=fun W4 h1 h2 h3=>⟨h2,uh HLEN.out (HQ.out.trans h1),h3⟩;have Ht:=hid OKE;have JR:=hid NOE;have NH:Fence.wide.fn 52:=trivial;have hfn2:Fence.wide.fn 119:=trivial;have hfd:Fence.wide.depth=none:=rfl;clear OKE NOE;have q0:=tY.out;have r0:=aj q0 (i:=0) rfl;have r1:=aA q0 (i:=0);have r2:=lt_of_block q0;clear q0;obtain⟨gd,gl,g0,g1,g2,g3,g4,ga⟩:=hf3;have hfo:=qF g.op W3 hg3;unfold I7 at hfo
  have wZ:=hid (fun (W':World) (hb:Below W3.heap.size W3 W')=>GH g b o A' c' W' (dU.keep (D:=(· < W3.heap.size)) ⟨gl,gl,g0,g1,g2,g3,g4,ga.old⟩ (Keeps.of_below hb fun _ h=>h)) (hg3.below hb hg3.pos) ((ED.out.below (AX.out.below (B:=w.heap.size) (fun b hb=>by omega) (by have:=HS2.out;omega)) HK.out.pos).below hb (by have:=HS2.out;have:=HK.out.pos;omega)))
  have HAT:=hid (fun (W':World) (hb:Below W3.heap.size W3 W')=>(show W'.cell? ⟨b,o,none⟩=some (.int .i64 g.op)/\W'.cell? ⟨b,o+4,none⟩=some (.slice A' g.args.length c')/\W'.heap[w.heap.size]?=some (.cells #[.bool false] 4 (0,0))/\W'.cell? ⟨w.heap.size,0,none⟩=some (.bool false)/\W'.frozen? ⟨w.heap.size,0,none⟩=false/\w.heap.size<W'.heap.size from
   have q0:=(hb.block _ (lt_of_block tY.out)).trans tY.out
   ⟨(hb.cell (p:=⟨b,o,none⟩) gl).trans g0,(hb.cell (p:=⟨b,o+4,none⟩) gl).trans g4,q0,aj q0 (i:=0) rfl,aA q0 (i:=0),lt_of_block q0⟩))
  have WM:=hid ga.old;clear hg3 ga g1 g2 g3 r0 r1 r2
  cases hlo:(aI g.op).loose <;> rw[hlo]at hfo <;> (have tZ:=hid hlo) <;> clear hlo
  ·gi_wp2_with (first|(gi_at_call 52;refine(CallsIn.inRound l (callsIn_wide.2 hfo)).mono ?_;rintro e W4 ⟨rfl,hb4⟩;have hb6:=hb4;obtain⟨y0,y4,q0,r0,r1,r2⟩:=HAT.out _ hb4)|(gi_at_call 119;go_loud (refine(CallsIn.inRound l (callsIn_wide.2 (wZ.out _ (hb4.alloc hb4.size _)))).mono ?_;rintro e W5 ⟨rfl,hb5⟩;have kJ:=(hb4.alloc hb4.size (.cells #[.int .i64 (aI g.op).least,.int .i64 (aI g.op).most,.int .i64 (aI g.op).val,.int .i64 (aI g.op).bound,.bool (aI g.op).named,.bool (aI g.op).past,.bool (aI g.op).future,.bool true] 78)).trans (hb5.mono (by simp;have:=hb4.size;omega));obtain⟨y0,y4,q5,r0,r1,r2⟩:=HAT.out _ kJ;have p6:=(hb5.cell (p:=⟨W4.heap.size,6,none⟩) (by simp)).trans (jH W4 _ _ _ 6 (.bool (aI g.op).future) rfl rfl);(try(have y5:=DW.out _ kJ)))))
   refine(fun z=>⟨z.1,rfl,z.2⟩) (JR.out _ (by unfold bU;rw[tZ.out];rfl) (((aF.aS (V:=fun b=>b=w.heap.size) hb4).set ⟨w.heap.size,0,none⟩ (.bool false) (fun _=>rfl)).alloc _) ?_);rw[aQ _ _ _ (by simpa using r2),aB q0];rfl
  cases hsp:bQ g <;> rw[hsp]at wZ <;> (have HSP:=hid hsp) <;> clear hsp
  ·gi_wp2_with (first|(gi_at_call 52;refine(CallsIn.inRound l (callsIn_wide.2 hfo)).mono ?_;rintro e W4 ⟨rfl,hb4⟩;have hb6:=hb4;obtain⟨y0,y4,q0,r0,r1,r2⟩:=HAT.out _ hb4)|(gi_at_call 119;go_loud (refine(CallsIn.inRound l (callsIn_wide.2 (wZ.out _ (hb4.alloc hb4.size _)))).mono ?_;rintro e W5 ⟨rfl,hb5⟩;have kJ:=(hb4.alloc hb4.size (.cells #[.int .i64 (aI g.op).least,.int .i64 (aI g.op).most,.int .i64 (aI g.op).val,.int .i64 (aI g.op).bound,.bool (aI g.op).named,.bool (aI g.op).past,.bool (aI g.op).future,.bool true] 78)).trans (hb5.mono (by simp;have:=hb4.size;omega));obtain⟨y0,y4,q5,r0,r1,r2⟩:=HAT.out _ kJ;have p6:=(hb5.cell (p:=⟨W4.heap.size,6,none⟩) (by simp)).trans (jH W4 _ _ _ 6 (.bool (aI g.op).future) rfl rfl);(try(have y5:=DW.out _ kJ)))))
   refine(fun z=>⟨z.1,rfl,z.2⟩) (JR.out _ (by unfold bU;dsimp only;rw[HSP.out];simp) ((aF.aS (V:=fun b=>b=w.heap.size) kJ).set ⟨w.heap.size,0,none⟩ (.bool false) (fun _=>rfl)) ?_);rw[aB q5];rfl
  by_cases hfi:(aI g.op).future=true/\ins=true
  ·obtain⟨hfu,rfl⟩:=hfi
   rw[hfu]at hfo;have Xi:=hid hfu;clear hfu
   gi_wp2_with (first|(gi_at_call 52;refine(CallsIn.inRound l (callsIn_wide.2 hfo)).mono ?_;rintro e W4 ⟨rfl,hb4⟩;have hb6:=hb4;obtain⟨y0,y4,q0,r0,r1,r2⟩:=HAT.out _ hb4)|(gi_at_call 119;go_loud (refine(CallsIn.inRound l (callsIn_wide.2 (wZ.out _ (hb4.alloc hb4.size _)))).mono ?_;rintro e W5 ⟨rfl,hb5⟩;have kJ:=(hb4.alloc hb4.size (.cells #[.int .i64 (aI g.op).least,.int .i64 (aI g.op).most,.int .i64 (aI g.op).val,.int .i64 (aI g.op).bound,.bool (aI g.op).named,.bool (aI g.op).past,.bool true,.bool true] 78)).trans (hb5.mono (by simp;have:=hb4.size;omega));obtain⟨y0,y4,q5,r0,r1,r2⟩:=HAT.out _ kJ;have p6:=(hb5.cell (p:=⟨W4.heap.size,6,none⟩) (by simp)).trans (jH W4 _ _ _ 6 (.bool true) rfl rfl);(try(have y5:=DW.out _ kJ)))))
   refine(fun z=>⟨z.1,rfl,z.2⟩) (JR.out _ (by unfold bU;dsimp only;rw[Xi.out];simp) ((aF.aS (V:=fun b=>b=w.heap.size) kJ).set ⟨w.heap.size,0,none⟩ (.bool false) (fun _=>rfl)) ?_);rw[aB q5];rfl
  have hfi':((aI g.op).future&&ins)=false:=by
   cases h1:(aI g.op).future
   ·rfl
   ·cases h2:ins
    ·rfl
    ·exact absurd ⟨h1,h2⟩ hfi
  have AU:=hid hfi';clear hfi
  cases hfu:(aI g.op).future <;> rw[hfu]at hfo <;> (have Xi:=hid hfu) <;> clear hfu
  ·by_cases h4:g.op=4
   ·have hal:=uO HSP.out h4
    obtain⟨b1,o1,A1,c1,a0,rfl,ha0,hfa⟩:=WM.out.get hal;have DW:=hid (fun (W':World) (hb:Below W3.heap.size W3 W')=>(show W'.cell? ⟨b1,o1,none⟩=some (.int .i64 a0.op)from(hb.cell (p:=⟨b1,o1,none⟩) hfa.lt).trans (by have:=hfa.c0;simpa using this)));have HA0:=hid ha0.out;have H4:=hid h4;have hali:(0:Int)<g.args.length:=by omega
    rw[h4]at hfo g0 HAT;clear ha0 hfa hal h4
    by_cases h3:a0.op=3
    ·have EH:=hid (show bU (g,_)=true from by unfold bU Af;dsimp only;rw[tZ.out,HSP.out,AU.out,HA0.out,h3];simp)
     rw[h3]at DW;clear h3
     gi_wp2_with (first|(gi_at_call 52;refine(CallsIn.inRound l (callsIn_wide.2 hfo)).mono ?_;rintro e W4 ⟨rfl,hb4⟩;have hb6:=hb4;obtain⟨y0,y4,q0,r0,r1,r2⟩:=HAT.out _ hb4)|(gi_at_call 119;go_loud (refine(CallsIn.inRound l (callsIn_wide.2 (wZ.out _ (hb4.alloc hb4.size _)))).mono ?_;rintro e W5 ⟨rfl,hb5⟩;have kJ:=(hb4.alloc hb4.size (.cells #[.int .i64 (aI 4).least,.int .i64 (aI 4).most,.int .i64 (aI 4).val,.int .i64 (aI 4).bound,.bool (aI 4).named,.bool (aI 4).past,.bool false,.bool true] 78)).trans (hb5.mono (by simp;have:=hb4.size;omega));obtain⟨y0,y4,q5,r0,r1,r2⟩:=HAT.out _ kJ;have p6:=(hb5.cell (p:=⟨W4.heap.size,6,none⟩) (by simp)).trans (jH W4 _ _ _ 6 (.bool false) rfl rfl);(try(have y5:=DW.out _ kJ)))))
     exact Ht.out _ EH.out (aF.aS (V:=fun b=>b=w.heap.size) kJ) q5
    ·have EH:=hid (show bU (g,_)=false from by unfold bU Af;dsimp only;rw[HA0.out,H4.out,decide_eq_false h3];simp)
     have h3':=au h3;clear h3
     gi_wp2_with (first|(gi_at_call 52;refine(CallsIn.inRound l (callsIn_wide.2 hfo)).mono ?_;rintro e W4 ⟨rfl,hb4⟩;have hb6:=hb4;obtain⟨y0,y4,q0,r0,r1,r2⟩:=HAT.out _ hb4)|(gi_at_call 119;go_loud (refine(CallsIn.inRound l (callsIn_wide.2 (wZ.out _ (hb4.alloc hb4.size _)))).mono ?_;rintro e W5 ⟨rfl,hb5⟩;have kJ:=(hb4.alloc hb4.size (.cells #[.int .i64 (aI 4).least,.int .i64 (aI 4).most,.int .i64 (aI 4).val,.int .i64 (aI 4).bound,.bool (aI 4).named,.bool (aI 4).past,.bool false,.bool true] 78)).trans (hb5.mono (by simp;have:=hb4.size;omega));obtain⟨y0,y4,q5,r0,r1,r2⟩:=HAT.out _ kJ;have p6:=(hb5.cell (p:=⟨W4.heap.size,6,none⟩) (by simp)).trans (jH W4 _ _ _ 6 (.bool false) rfl rfl);(try(have y5:=DW.out _ kJ)))))
     refine(fun z=>⟨z.1,rfl,z.2⟩) (JR.out _ EH.out ((aF.aS (V:=fun b=>b=w.heap.size) kJ).set ⟨w.heap.size,0,none⟩ (.bool false) (fun _=>rfl)) ?_);rw[aB q5];rfl
   ·have EH:=hid (show bU (g,_)=true from by unfold bU Af;dsimp only;rw[tZ.out,HSP.out,AU.out,decide_eq_false h4];simp)
    have h4':=au h4;clear h4
    gi_wp2_with (first|(gi_at_call 52;refine(CallsIn.inRound l (callsIn_wide.2 hfo)).mono ?_;rintro e W4 ⟨rfl,hb4⟩;have hb6:=hb4;obtain⟨y0,y4,q0,r0,r1,r2⟩:=HAT.out _ hb4)|(gi_at_call 119;go_loud (refine(CallsIn.inRound l (callsIn_wide.2 (wZ.out _ (hb4.alloc hb4.size _)))).mono ?_;rintro e W5 ⟨rfl,hb5⟩;have kJ:=(hb4.alloc hb4.size (.cells #[.int .i64 (aI g.op).least,.int .i64 (aI g.op).most,.int .i64 (aI g.op).val,.int .i64 (aI g.op).bound,.bool (aI g.op).named,.bool (aI g.op).past,.bool false,.bool true] 78)).trans (hb5.mono (by simp;have:=hb4.size;omega));obtain⟨y0,y4,q5,r0,r1,r2⟩:=HAT.out _ kJ;have p6:=(hb5.cell (p:=⟨W4.heap.size,6,none⟩) (by simp)).trans (jH W4 _ _ _ 6 (.bool false) rfl rfl);(try(have y5:=DW.out _ kJ)))))
    exact Ht.out _ EH.out (aF.aS (V:=fun b=>b=w.heap.size) kJ) q5
  ·obtain rfl:ins=false:=by
    have:=AU.out;rw[Xi.out]at this;cases ins
    ·rfl
    ·cases this
   by_cases h4:g.op=4
   ·have hal:=uO HSP.out h4
    obtain⟨b1,o1,A1,c1,a0,rfl,ha0,hfa⟩:=WM.out.get hal;have DW:=hid (fun (W':World) (hb:Below W3.heap.size W3 W')=>(show W'.cell? ⟨b1,o1,none⟩=some (.int .i64 a0.op)from(hb.cell (p:=⟨b1,o1,none⟩) hfa.lt).trans (by have:=hfa.c0;simpa using this)));have HA0:=hid ha0.out;have H4:=hid h4;have hali:(0:Int)<g.args.length:=by omega
    rw[h4]at hfo g0 HAT;clear ha0 hfa hal h4
    by_cases h3:a0.op=3
    ·have EH:=hid (show bU (g,_)=true from by unfold bU Af;dsimp only;rw[tZ.out,HSP.out,AU.out,HA0.out,h3];simp)
     rw[h3]at DW;clear h3
     gi_wp2_with (first|(gi_at_call 52;refine(CallsIn.inRound l (callsIn_wide.2 hfo)).mono ?_;rintro e W4 ⟨rfl,hb4⟩;have hb6:=hb4;obtain⟨y0,y4,q0,r0,r1,r2⟩:=HAT.out _ hb4)|(gi_at_call 119;go_loud (refine(CallsIn.inRound l (callsIn_wide.2 (wZ.out _ (hb4.alloc hb4.size _)))).mono ?_;rintro e W5 ⟨rfl,hb5⟩;have kJ:=(hb4.alloc hb4.size (.cells #[.int .i64 (aI 4).least,.int .i64 (aI 4).most,.int .i64 (aI 4).val,.int .i64 (aI 4).bound,.bool (aI 4).named,.bool (aI 4).past,.bool true,.bool true] 78)).trans (hb5.mono (by simp;have:=hb4.size;omega));obtain⟨y0,y4,q5,r0,r1,r2⟩:=HAT.out _ kJ;have p6:=(hb5.cell (p:=⟨W4.heap.size,6,none⟩) (by simp)).trans (jH W4 _ _ _ 6 (.bool true) rfl rfl);(try(have y5:=DW.out _ kJ)))))
     exact Ht.out _ EH.out (aF.aS (V:=fun b=>b=w.heap.size) kJ) q5
    ·have EH:=hid (show bU (g,_)=false from by unfold bU Af;dsimp only;rw[HA0.out,H4.out,decide_eq_false h3];simp)
     have h3':=au h3;clear h3
     gi_wp2_with (first|(gi_at_call 52;refine(CallsIn.inRound l (callsIn_wide.2 hfo)).mono ?_;rintro e W4 ⟨rfl,hb4⟩;have hb6:=hb4;obtain⟨y0,y4,q0,r0,r1,r2⟩:=HAT.out _ hb4)|(gi_at_call 119;go_loud (refine(CallsIn.inRound l (callsIn_wide.2 (wZ.out _ (hb4.alloc hb4.size _)))).mono ?_;rintro e W5 ⟨rfl,hb5⟩;have kJ:=(hb4.alloc hb4.size (.cells #[.int .i64 (aI 4).least,.int .i64 (aI 4).most,.int .i64 (aI 4).val,.int .i64 (aI 4).bound,.bool (aI 4).named,.bool (aI 4).past,.bool true,.bool true] 78)).trans (hb5.mono (by simp;have:=hb4.size;omega));obtain⟨y0,y4,q5,r0,r1,r2⟩:=HAT.out _ kJ;have p6:=(hb5.cell (p:=⟨W4.heap.size,6,none⟩) (by simp)).trans (jH W4 _ _ _ 6 (.bool true) rfl rfl);(try(have y5:=DW.out _ kJ)))))
     refine(fun z=>⟨z.1,rfl,z.2⟩) (JR.out _ EH.out ((aF.aS (V:=fun b=>b=w.heap.size) kJ).set ⟨w.heap.size,0,none⟩ (.bool false) (fun _=>rfl)) ?_);rw[aB q5];rfl
   ·have EH:=hid (show bU (g,_)=true from by unfold bU Af;dsimp only;rw[tZ.out,HSP.out,AU.out,decide_eq_false h4];simp)
    have h4':=au h4;clear h4
    gi_wp2_with (first|(gi_at_call 52;refine(CallsIn.inRound l (callsIn_wide.2 hfo)).mono ?_;rintro e W4 ⟨rfl,hb4⟩;have hb6:=hb4;obtain⟨y0,y4,q0,r0,r1,r2⟩:=HAT.out _ hb4)|(gi_at_call 119;go_loud (refine(CallsIn.inRound l (callsIn_wide.2 (wZ.out _ (hb4.alloc hb4.size _)))).mono ?_;rintro e W5 ⟨rfl,hb5⟩;have kJ:=(hb4.alloc hb4.size (.cells #[.int .i64 (aI g.op).least,.int .i64 (aI g.op).most,.int .i64 (aI g.op).val,.int .i64 (aI g.op).bound,.bool (aI g.op).named,.bool (aI g.op).past,.bool true,.bool true] 78)).trans (hb5.mono (by simp;have:=hb4.size;omega));obtain⟨y0,y4,q5,r0,r1,r2⟩:=HAT.out _ kJ;have p6:=(hb5.cell (p:=⟨W4.heap.size,6,none⟩) (by simp)).trans (jH W4 _ _ _ 6 (.bool true) rfl rfl);(try(have y5:=DW.out _ kJ)))))
    exact Ht.out _ EH.out (aF.aS (V:=fun b=>b=w.heap.size) kJ) q5
 case hdone =>
  rintro W3 hc ⟨h1,h2⟩ hD3;have r0:=aj h2 (i:=0) rfl;have r1:=aA h2 (i:=0);have r2:=lt_of_block h2
  dsimp only
  go_wp2_with fail
  have hD4:=(at_set (w:=W3) (p:=⟨w.heap.size,0,none⟩) (u := .bool true) (show W2.heap.size≠w.heap.size by have:=HS2.out;omega)).trans hD3;have e4:(W3.setCell ⟨w.heap.size,0,none⟩ (.bool true)).heap[w.heap.size]?=some (.cells #[.bool true] 4 (0,0)):=by rw[aB h2];rfl
  have hc4:=(HB2.out.trans (hc.below (B:=w.heap.size) (fun b hb=>by omega) HB2.out.size)).setCell (p:=⟨w.heap.size,0,none⟩) (by simp) (.bool true);refine fG rfl hD4 (v := .bool true) (fun w' hc'=>?_) (fun w' hc'=>⟨by rw[sG h1],hc4.trans (hc'.below (fun b hb=>by have:=HS2.out;omega) hc4.size)⟩);have:=aj (hc'.box e4 (by have:=HS2.out;omega)) (i:=0) rfl;simp[results,Tryz.results81,go_sem,this]
 case hstop =>
  rintro c W3 hc ⟨rfl,h1,h2⟩ hD3
  dsimp only
  go_wp2_with fail
  have hc4:=HB2.out.trans (hc.below (B:=w.heap.size) (fun b hb=>by omega) HB2.out.size);refine fG rfl hD3 (v := .bool false) (fun w' hc'=>?_) (fun w' hc'=>⟨by rw[h1],hc4.trans (hc'.below (fun b hb=>by have:=HS2.out;omega) hc4.size)⟩);have:=aj (hc'.box h2 (by have:=HS2.out;omega)) (i:=0) rfl;simp[results,Tryz.results81,go_sem,this]
end Go.Proofs.YtdpbgcmfeajigaaGreatDoor
namespace Go.Proofs.YtdpbgcmfeajigaaGreatDoor
open Go.RowKit Go.Shelf
attribute [local go_sem] ak Oper.semAt_some
def bf (f:Fm):Bool:=bH f 400 60&&allB bU f
def pU (f:Fm):Bool:=bH f 60 20&&allB bU f
theorem VE {D:Dom}(f:Fm)(b o:Nat)(A:Option Addr)(c:Nat)(w:World)(h:dU w D b o f A c)(hg:GF w)(hk:GK w) :
  Calls Tryz.prog 72 #[.pointer (some ⟨b,o,none⟩)] w fun e w'=>e = .returned (.bool (bf f))/\Below w.heap.size w w':=by
 have HH:=hid h.old;have HG:=hid hg;have HK:=hid hk;have Hw:=hid (zf f b o A c 400 60 w h (by decide) (by decide) (by decide) (by decide));clear h hg hk;cases hfit:bH f 400 60
 ·have HR:=hid (show bf f=false by unfold bf;rw[hfit];rfl)
  rw[hfit]at Hw;clear hfit
  go_enter Tryz.func72,Tryz.ntmps72
  go_wp2_with (first|(go_at_call 80;refine Hw.out.mono ?_;rintro e V ⟨rfl,jO⟩))
  go_ret
  exact⟨aC HR.out.symm,jO⟩
 ·have HR:=hid (show bf f=allB bU f by unfold bf;rw[hfit];rfl)
  have HD:=hid (show f.depth<=5000 by have:=(gX.1 hfit).2;omega);rw[hfit]at Hw;clear hfit
  go_enter Tryz.func72,Tryz.ntmps72
  go_wp2_with (first|(go_at_call 80;refine Hw.out.mono ?_;rintro e V ⟨rfl,jO⟩)|(go_at_call 81;refine(MS f b o A c V (HH.out.keep (Keeps.of_below jO fun _ h=>h)) (HG.out.below jO HG.out.pos) (HK.out.below jO HK.out.pos) HD.out).mono ?_;rintro e w2 ⟨rfl,hb2⟩))
  go_ret
  exact⟨aC HR.out.symm,jO.trans (hb2.mono jO.size)⟩
theorem Kz {D:Dom}(f:Fm)(v:Value)(w:World)(h:bG w D v f)(hg:GF w)(hk:GK w) :
  Calls Tryz.prog 29 #[v] w fun e w'=>e = .returned (.bool (pU f))/\Below w.heap.size w w':=by
 obtain⟨A,c,rfl,ha⟩:=h;have HA:=hid ha.old;have HG:=hid hg;have HK:=hid hk;clear ha hg hk
 go_enter Tryz.func29,Tryz.ntmps29
 go_upto_region 1 with(fail)
 refine aH fun W hW=>?_;have hb:Below w.heap.size w W:=by rw[hW];go_grown
 have e0:dI W w.heap.size f A c:=by
  show W.heap[w.heap.size]?=_;rw[hW];exact at_new _ _ _ rfl
 have HB:=hid hb;have HH:=hid (dI.vM (D:=(· < W.heap.size)) e0 (lt_of_block e0) ((HA.out.keep (Keeps.of_below HB.out fun _ h=>h)).mono fun k hk hl=>hl));have Hw:=hid (zf f w.heap.size 0 A c 60 20 W HH.out (by decide) (by decide) (by decide) (by decide));clear hW hb e0;cases hfit:bH f 60 20
 ·have HR:=hid (show pU f=false by unfold pU;rw[hfit];rfl)
  rw[hfit]at Hw;clear hfit;go_wp2_with (first|(go_at_call 80;refine Hw.out.mono ?_;rintro e V ⟨rfl,jO⟩))
  go_ret
  exact⟨aC HR.out.symm,HB.out.trans (jO.mono HB.out.size)⟩
 ·have HR:=hid (show pU f=allB bU f by unfold pU;rw[hfit];rfl)
  have HD:=hid (show f.depth<=5000 by have:=(gX.1 hfit).2;omega);rw[hfit]at Hw;clear hfit;go_wp2_with (first|(go_at_call 80;refine Hw.out.mono ?_;rintro e V ⟨rfl,jO⟩;have hbw:=HB.out.trans (jO.mono HB.out.size))|(go_at_call 81;refine(MS f w.heap.size 0 A c V (HH.out.keep (Keeps.of_below jO fun _ h=>h)) (HG.out.below hbw HG.out.pos) (HK.out.below hbw HK.out.pos) HD.out).mono ?_;rintro e w2 ⟨rfl,hb2⟩))
  go_ret
  exact⟨aC HR.out.symm,hbw.trans (hb2.mono hbw.size)⟩
theorem FX {P:Program}{fn:Func}{R:Ending->World->Prop}{a:Act}{w:World}{D:Nat}{v:Value}(hd:a.defers = [{ target := .collected D,args := #[] }])(hD:w.heap[D]?=some (.deferred (some [])))
  (hr:∀w',(results fn a.tmps).run P w' = .ok v w') (h:∀w',aF (fun b=>b=D) w w'->R (.returned v) w'):bodyPostM Fence.wide 3 P fn R .ret a w:=fG hd hD (fun w' _=>hr w') h
theorem size_any {D:Dom}(f:Fm)(v:Value)(w:World)(h:bG w D v f)(hg:GF w)(hd:f.depth<=5000)(hz:f.size<=1000000) :
  Calls Tryz.prog 30 #[v] w fun e w'=>e = .returned (.int .i64 (f.size:Int))/\Below w.heap.size w w':=by
 obtain⟨A,c,rfl,ha⟩:=h;have HA:=hid ha.old;have HG:=hid hg;have HD:=hid hd;clear ha hg hd;refine(callsIn_wide (n:=3)).1 (callsIn_of_wp_marks Tryz.func30 rfl trivial ?_ rfl);simp only[Tryz.ntmps30,List.size_toArray,List.length_cons,List.length_nil,Nat.reduceAdd,Nat.reduceSub,Array.replicate_succ,Array.replicate_zero,List.push_toArray,List.append_toArray,List.nil_append,List.cons_append];refine wpIn_wide.2 ?_;go_upto_region 2 with(fail)
 refine aH fun W hW=>?_;have hb:Below w.heap.size w W:=by rw[hW];go_grown
 have e0:dI W w.heap.size f A c:=by
  show W.heap[w.heap.size]?=_;rw[hW,aQ _ _ _ (by simp)];exact at_new _ _ _ rfl
 have e1:W.heap[w.heap.size+1]?=some (.cells #[.int .i64 0] 3 (0,0)):=by rw[hW];exact at_new _ _ _ (by simp)
 have hs:w.heap.size+2<=W.heap.size:=by rw[hW];simp
 have HB:=hid hb;have mW:=hid e0;have kP:=hid e1;have HS:=hid hs;clear hW hb e0 e1 hs;go_wp2_with (first|(go_at_call 51;refine(qw _ W).mono ?_;rintro e w2 ⟨rfl,rfl⟩))
 refine aH fun W2 hW2=>?_;have hb2:Below W.heap.size W W2:=by rw[hW2];go_grown
 have hp2:W2.cell? ⟨W.heap.size,0,none⟩=some (.pointer (some ⟨w.heap.size,0,none⟩)):=by rw[hW2];exact aj (at_new _ _ _ rfl) (i:=0) rfl
 have hs2:w.heap.size+3<=W2.heap.size:=by rw[hW2];simp;have:=HS.out;omega
 have HB2:=hid (HB.out.trans (hb2.mono HB.out.size));have hE1:W2.heap[w.heap.size+1]?=some (.cells #[.int .i64 ((0:Nat):Int)] 3 (0,0)):=(hb2.block _ (by have:=HS.out;omega)).trans kP.out;have HF:=hid (dI.vM (D:=(· < w.heap.size+1)) (mW.out.below hb2) (Nat.lt_succ_self _) ((HA.out.keep (Keeps.of_below HB2.out fun _ h=>h)).mono fun k hk _=>Nat.lt_succ_of_lt hk));have HP:=hid hp2;have HS2:=hid hs2;have tX:=hid hE1;have HG2:=hid (HG.out.below HB2.out HG.out.pos);clear hW2 hb2 hp2 hs2 hE1
 refine lM f w.heap.size 0 W.heap.size (w.heap.size+1) A c (fun b=>b=w.heap.size+1)
  (fun k W'=>W'.heap[w.heap.size+1]?=some (.cells #[.int .i64 (k:Int)] 3 (0,0)))
  (fun c W'=>False)
  rfl rfl HF.out (by omega) (by have:=HS2.out;omega) HP.out HG2.out HD.out ?hZ ?hI ?hIx tX.out ?a1 ?hassign ?dP ?hdone ?hstop
 case hassign =>
  intro l p q W K hK
  gi_wp2
  exact hK
 case hZ=>intro b hb;have:=HS2.out;omega
 case hI=>rintro k W3 W4 h2 hc;exact hc.box h2 (by have:=HS2.out;omega)
 case hIx=>rintro c W3 W4 h0 hc;exact h0
 case dP =>
  rintro l k W3 b o A' c' hs3 hg3 hc3 hk2 hlen hf3;have r0:=aj hk2 (i:=0) rfl;have r1:=aA hk2 (i:=0);have hlen':k<f.size:=by rw[<-kU false f];exact hlen
  have ED:=hid hk2;clear hk2 hlen hf3 hg3 hc3
  gi_wp2_with fail
  refine⟨(aF.refl _ W3).set _ _ (fun _=>rfl),?_⟩;show(W3.setCell ⟨w.heap.size+1,0,none⟩ (.int .i64 ((k:Int)+1))).heap[w.heap.size+1]?=some (.cells #[.int .i64 ((k+1:Nat):Int)] 3 (0,0));rw[aB ED.out];simp
 case hdone =>
  rintro W3 hc h2 hD3;have r0:=aj h2 (i:=0) rfl
  dsimp only
  go_wp2_with fail
  have hc4:=HB2.out.trans (hc.below (B:=w.heap.size) (fun b hb=>by omega) HB2.out.size);refine FX rfl hD3 (v := .int .i64 (f.size:Int)) (fun w'=>?_) (fun w' hc'=>⟨rfl,hc4.trans (hc'.below (fun b hb=>by have:=HS2.out;omega) hc4.size)⟩);simp[results,Tryz.results30,go_sem]
 case hstop =>
  rintro c W3 hc h0 hD3;exact h0.elim
end Go.Proofs.YtdpbgcmfeajigaaGreatDoor
