/-
  Parts of a proof: FP FQ FR.
-/
import Derived.Test.YtdpbgcmfeajigaaGreatDoorT03
import Derived.Test.YtdpbgcmfeajigaaGreatDoorT06
set_option linter.unusedSimpArgs false
set_option linter.unusedVariables false
set_option maxHeartbeats 8000000
set_option maxRecDepth 100000
namespace Go.Proofs.YtdpbgcmfeajigaaGreatDoor
def cZ (neg:Bool)(o:Int):Int:=if neg then Td (FP o)else FP o
def QM (o:Int):Bool:=decide (o=15) || decide (o=16) || decide (o=17)
def uQ (o:Int):Bool:=decide (o=11) || decide (o=12) || decide (o=18) || decide (o=19)
def ng (neg:Bool)(o v:Int):Int:=if QM o then(if neg then 1-v else v)else if uQ o&&decide (cZ neg o=17)then 1 else v
def oV (neg:Bool)(o:Int):List Fm:=if uQ o then [kK (if cZ neg o=9\/cZ neg o=16 then 1 else 2) []]else []
def oz (o:Int):Nat->Fm->Fm
 | 0,f=>f
 | n+1,f=>kK o [f,kK 8 [oz o n f]]
def Yi (neg:Bool)(o:Int)(n:ByteArray)(v b:Int)(ga:List Fm):Fm :=
 if o=4 then ga.headD default
 else if o=3 then(if neg then kK 4 [Wi n v]else .mk 3 n v 0 ga)
 else if o=13\/o=14 then oz (cZ neg o) b.toNat (ga.headD default)
 else .mk (cZ neg o) n (ng neg o v) 0 (oV neg o++ga)
mutual
def kf:Bool->Fm->Fm
 | neg,.mk o n v b l=>Yi neg o n v b (Hf (if o=4\/o=7 then !neg else neg) (if o=4 then !neg else neg) l)
def Hf:Bool->Bool->List Fm->List Fm
 | _,_,[] => []
 | a,r,f :: l=>kf a f :: Hf r r l
end
def qX (neg:Bool)(o:Int):Bool:=if o=4\/o=7 then !neg else neg
def pW (neg:Bool)(o:Int):Bool:=if o=4 then !neg else neg
theorem Ns (neg:Bool)(f:Fm):kf neg f=Yi neg f.op f.name f.val f.bound (Hf (qX neg f.op) (pW neg f.op) f.args):=by
 cases f;simp only[kf,Fm.op,Fm.name,Fm.val,Fm.bound,Fm.args,qX,pW];rfl
theorem KA:∀(a r:Bool) (l:List Fm),(Hf a r l).length=l.length
 | _,_,[]=>rfl
 | _,r,f :: l=>by simp only[Hf,List.length_cons,KA r r l]
theorem Yk:∀(r:Bool) (l:List Fm),Hf r r l=l.map (kf r)
 | _,[]=>rfl
 | r,f :: l=>by simp only[Hf,Yk r l,List.map_cons]
theorem qaH:∀(a r:Bool) (l:List Fm) (i:Nat),i<l.length->(Hf a r l).getD i default=kf (if i=0 then a else r) (l.getD i default)
 | _,_,[],i,h=>absurd h (Nat.not_lt_zero _)
 | a,r,f :: l,0,_=>by simp[Hf]
 | a,r,f :: l,i+1,h=>by
  have h':i<l.length:=by simpa using h
  simp only[Hf,Yk,List.getD_cons_succ,List.getD_eq_getElem?_getD,List.getElem?_cons_succ,List.getElem?_map];simp[h']
theorem Yl (a r:Bool)(l:List Fm){i:Nat}(h:i<l.length):(Hf a r l).take (i+1)=(Hf a r l).take i ++ [kf (if i=0 then a else r) (l.getD i default)]:=by
 rw[aU _ default (by rw[KA];exact h),qaH a r l i h]
end Go.Proofs.YtdpbgcmfeajigaaGreatDoor
namespace Go.Proofs.YtdpbgcmfeajigaaGreatDoor
open Go.RowKit Go.Shelf
attribute [local go_sem] ak Oper.semAt_some
def AP (g:Fm):Bool := !(decide (g.op=4) && !decide ((g.args.getD 0 default).op=3))
def bY (x:Fm×Bool):Bool:=(aJ x.1.op).loose&&cu x.1 && !((aJ x.1.op).future&&x.2)&&AP x.1
theorem vg {g:Fm}(h:cu g=true)(h4:g.op=4):0<g.args.length:=by
 unfold cu at h;simp only[Bool.and_eq_true,decide_eq_true_eq]at h;have h1:=h.1.1.1.1.1.1.2;rw[h4]at h1;have:(aJ 4).least=1:=by rfl
 omega
theorem MF {D:Dom}(f:Fm)(b o:Nat)(A:Option Addr)(c:Nat)(w:World)(h:dR w D b o f A c)(hg:GF w)(hk:GK w)(hd:f.depth<=5000) :
  Calls Tryz.prog 81 #[.pointer (some ⟨b,o,none⟩)] w fun e w'=>e = .returned (.bool (allB bY f))/\Below w.heap.size w w':=by
 have HH:=hid h.old;have HG:=hid hg;have HK:=hid hk;have HD:=hid hd;clear h hg hk hd;refine(callsIn_wide (n:=3)).1 (callsIn_of_wp_marks Tryz.func81 rfl trivial ?_ rfl);simp only[Tryz.ntmps81,List.size_toArray,List.length_cons,List.length_nil,Nat.reduceAdd,Nat.reduceSub,Array.replicate_succ,Array.replicate_zero,List.push_toArray,List.append_toArray,List.nil_append,List.cons_append];refine wpIn_wide.2 ?_;go_upto_region 1 with(fail)
 refine aF fun W hW=>?_;have hb:Below w.heap.size w W:=by rw[hW];go_grown
 have e1:W.heap[w.heap.size]?=some (.cells #[.bool false] 4 (0,0)):=by rw[hW];exact at_new _ _ _ rfl
 have hs:w.heap.size+1<=W.heap.size:=by rw[hW];simp
 have HB:=hid hb;have lq:=hid e1;have HS:=hid hs;clear hW hb e1 hs;go_wp2_with (first|(go_at_call 51;refine(yj _ W).mono ?_;rintro e w2 ⟨rfl,rfl⟩))
 refine aF fun W2 hW2=>?_;have hb2:Below W.heap.size W W2:=by rw[hW2];go_grown
 have hp2:W2.cell? ⟨W.heap.size,0,none⟩=some (.pointer (some ⟨b,o,none⟩)):=by rw[hW2];exact aj (at_new _ _ _ rfl) (i:=0) rfl
 have hs2:w.heap.size+2<=W2.heap.size:=by rw[hW2];simp;have:=HS.out;omega
 have HB2:=hid (HB.out.trans (hb2.mono HB.out.size));have hE1:W2.heap[w.heap.size]?=some (.cells #[.bool false] 4 (0,0)):=(hb2.block _ (by have:=HS.out;omega)).trans lq.out;have HF:=hid (HH.out.keep (Keeps.of_below HB2.out fun _ h=>h));have HP:=hid hp2;have HS2:=hid hs2;have vZ:=hid hE1;have HG2:=hid (HG.out.below HB2.out HG.out.pos);have EN:=hid (HK.out.below HB2.out HK.out.pos);clear hW2 hb2 hp2 hs2 hE1
 refine rQ f (b) (o) W.heap.size (w.heap.size) A c (fun b=>b=w.heap.size)
  (fun k W'=>vI bY f k/\W'.heap[w.heap.size]?=some (.cells #[.bool false] 4 (0,0)))
  (fun c W'=>c = .ret/\allB bY f=false/\W'.heap[w.heap.size]?=some (.cells #[.bool false] 4 (0,0)))
  rfl rfl HF.out (by have:=HG.out.pos;omega) (by have:=HS2.out;omega) HP.out HG2.out HD.out ?hZ ?hI ?hIx ⟨qI _ _,vZ.out⟩ ?a1 ?hassign ?eu ?hdone ?hstop
 case hassign =>
  intro l p q W K hK
  gi_wp2
  exact hK
 case hZ=>intro b hb;have:=HS2.out;omega
 case hI=>rintro k W3 W4 ⟨h1,h2⟩ hc;exact⟨h1,hc.box h2 (by have:=HS2.out;omega)⟩
 case hIx=>rintro c W3 W4 ⟨h0,h1,h2⟩ hc;exact⟨h0,h1,hc.box h2 (by have:=HS2.out;omega)⟩
 case eu =>
  rintro l k W3 b o A' c' hs3 hg3 hc3 ⟨hk1,hk2⟩ hlen hf3;generalize hx:(fE false f).getD k default=x at hf3⊢;obtain⟨g,ins⟩:=x;have hq:bY ((fE false f).getD k default)=bY (g,ins):=by rw[hx]
  have TW:=hid hk1;have uD:=hid hk2;have HLEN:=hid hlen;have HQ:=hid hq;have Eu:=hid hc3;clear hk1 hk2 hx hlen hq hc3;have OKE:∀W4:World,bY (g,ins)=true->aH (fun b=>b=w.heap.size) W3 W4->W4.heap[w.heap.size]?=some (.cells #[.bool false] 4 (0,0))->aH (fun b=>b=w.heap.size) W3 W4/\vI bY f (k+1)/\W4.heap[w.heap.size]?=some (.cells #[.bool false] 4 (0,0)):=fun W4 h1 h2 h3=>⟨h2,qH TW.out (HQ.out.trans h1),h3⟩
  have NOE:∀W4:World,bY (g,ins)=false->aH (fun b=>b=w.heap.size) W3 W4->W4.heap[w.heap.size]?=some (.cells #[.bool false] 4 (0,0))->aH (fun b=>b=w.heap.size) W3 W4/\allB bY f=false/\W4.heap[w.heap.size]?=some (.cells #[.bool false] 4 (0,0)):=fun W4 h1 h2 h3=>⟨h2,uG HLEN.out (HQ.out.trans h1),h3⟩;have Ho:=hid OKE;have JW:=hid NOE;have Nj:Fence.wide.fn 52:=trivial;have hfn2:Fence.wide.fn 119:=trivial;have hfd:Fence.wide.depth=none:=rfl;clear OKE NOE;have q0:=uD.out;have r0:=aj q0 (i:=0) rfl;have r1:=aA q0 (i:=0);have r2:=lt_of_block q0;clear q0;obtain⟨gd,gl,g0,g1,g2,g3,g4,ga⟩:=hf3;have hfo:=qJ g.op W3 hg3;unfold I7 at hfo
  have xE:=hid (fun (W':World) (hb:Below W3.heap.size W3 W')=>GL g b o A' c' W' (dR.keep (D:=(· < W3.heap.size)) ⟨gl,gl,g0,g1,g2,g3,g4,ga.old⟩ (Keeps.of_below hb fun _ h=>h)) (hg3.below hb hg3.pos) ((EN.out.below (Eu.out.below (B:=w.heap.size) (fun b hb=>by omega) (by have:=HS2.out;omega)) HK.out.pos).below hb (by have:=HS2.out;have:=HK.out.pos;omega)))
  have HAT:=hid (fun (W':World) (hb:Below W3.heap.size W3 W')=>(show W'.cell? ⟨b,o,none⟩=some (.int .i64 g.op)/\W'.cell? ⟨b,o+4,none⟩=some (.slice A' g.args.length c')/\W'.heap[w.heap.size]?=some (.cells #[.bool false] 4 (0,0))/\W'.cell? ⟨w.heap.size,0,none⟩=some (.bool false)/\W'.frozen? ⟨w.heap.size,0,none⟩=false/\w.heap.size<W'.heap.size from
   have q0:=(hb.block _ (lt_of_block uD.out)).trans uD.out
   ⟨(hb.cell (p:=⟨b,o,none⟩) gl).trans g0,(hb.cell (p:=⟨b,o+4,none⟩) gl).trans g4,q0,aj q0 (i:=0) rfl,aA q0 (i:=0),lt_of_block q0⟩))
  have ZB:=hid ga.old;clear hg3 ga g1 g2 g3 r0 r1 r2
  cases hlo:(aJ g.op).loose <;> rw[hlo]at hfo <;> (have sH:=hid hlo) <;> clear hlo
  ·gi_wp2_with (first|(gi_at_call 52;refine(CallsIn.inRound l (callsIn_wide.2 hfo)).mono ?_;rintro e W4 ⟨rfl,hb4⟩;have hb6:=hb4;obtain⟨y0,y4,q0,r0,r1,r2⟩:=HAT.out _ hb4)|(gi_at_call 119;go_loud (refine(CallsIn.inRound l (callsIn_wide.2 (xE.out _ (hb4.alloc hb4.size _)))).mono ?_;rintro e W5 ⟨rfl,hb5⟩;have kV:=(hb4.alloc hb4.size (.cells #[.int .i64 (aJ g.op).least,.int .i64 (aJ g.op).most,.int .i64 (aJ g.op).val,.int .i64 (aJ g.op).bound,.bool (aJ g.op).named,.bool (aJ g.op).past,.bool (aJ g.op).future,.bool true] 78)).trans (hb5.mono (by simp;have:=hb4.size;omega));obtain⟨y0,y4,q5,r0,r1,r2⟩:=HAT.out _ kV;have p6:=(hb5.cell (p:=⟨W4.heap.size,6,none⟩) (by simp)).trans (jO W4 _ _ _ 6 (.bool (aJ g.op).future) rfl rfl);(try(have y5:=Ea.out _ kV)))))
   refine(fun z=>⟨z.1,rfl,z.2⟩) (JW.out _ (by unfold bY;rw[sH.out];rfl) (((aH.aS (V:=fun b=>b=w.heap.size) hb4).set ⟨w.heap.size,0,none⟩ (.bool false) (fun _=>rfl)).alloc _) ?_);rw[aQ _ _ _ (by simpa using r2),aB q0];rfl
  cases hsp:cu g <;> rw[hsp]at xE <;> (have HSP:=hid hsp) <;> clear hsp
  ·gi_wp2_with (first|(gi_at_call 52;refine(CallsIn.inRound l (callsIn_wide.2 hfo)).mono ?_;rintro e W4 ⟨rfl,hb4⟩;have hb6:=hb4;obtain⟨y0,y4,q0,r0,r1,r2⟩:=HAT.out _ hb4)|(gi_at_call 119;go_loud (refine(CallsIn.inRound l (callsIn_wide.2 (xE.out _ (hb4.alloc hb4.size _)))).mono ?_;rintro e W5 ⟨rfl,hb5⟩;have kV:=(hb4.alloc hb4.size (.cells #[.int .i64 (aJ g.op).least,.int .i64 (aJ g.op).most,.int .i64 (aJ g.op).val,.int .i64 (aJ g.op).bound,.bool (aJ g.op).named,.bool (aJ g.op).past,.bool (aJ g.op).future,.bool true] 78)).trans (hb5.mono (by simp;have:=hb4.size;omega));obtain⟨y0,y4,q5,r0,r1,r2⟩:=HAT.out _ kV;have p6:=(hb5.cell (p:=⟨W4.heap.size,6,none⟩) (by simp)).trans (jO W4 _ _ _ 6 (.bool (aJ g.op).future) rfl rfl);(try(have y5:=Ea.out _ kV)))))
   refine(fun z=>⟨z.1,rfl,z.2⟩) (JW.out _ (by unfold bY;dsimp only;rw[HSP.out];simp) ((aH.aS (V:=fun b=>b=w.heap.size) kV).set ⟨w.heap.size,0,none⟩ (.bool false) (fun _=>rfl)) ?_);rw[aB q5];rfl
  by_cases hfi:(aJ g.op).future=true/\ins=true
  ·obtain⟨hfu,rfl⟩:=hfi
   rw[hfu]at hfo;have WG:=hid hfu;clear hfu
   gi_wp2_with (first|(gi_at_call 52;refine(CallsIn.inRound l (callsIn_wide.2 hfo)).mono ?_;rintro e W4 ⟨rfl,hb4⟩;have hb6:=hb4;obtain⟨y0,y4,q0,r0,r1,r2⟩:=HAT.out _ hb4)|(gi_at_call 119;go_loud (refine(CallsIn.inRound l (callsIn_wide.2 (xE.out _ (hb4.alloc hb4.size _)))).mono ?_;rintro e W5 ⟨rfl,hb5⟩;have kV:=(hb4.alloc hb4.size (.cells #[.int .i64 (aJ g.op).least,.int .i64 (aJ g.op).most,.int .i64 (aJ g.op).val,.int .i64 (aJ g.op).bound,.bool (aJ g.op).named,.bool (aJ g.op).past,.bool true,.bool true] 78)).trans (hb5.mono (by simp;have:=hb4.size;omega));obtain⟨y0,y4,q5,r0,r1,r2⟩:=HAT.out _ kV;have p6:=(hb5.cell (p:=⟨W4.heap.size,6,none⟩) (by simp)).trans (jO W4 _ _ _ 6 (.bool true) rfl rfl);(try(have y5:=Ea.out _ kV)))))
   refine(fun z=>⟨z.1,rfl,z.2⟩) (JW.out _ (by unfold bY;dsimp only;rw[WG.out];simp) ((aH.aS (V:=fun b=>b=w.heap.size) kV).set ⟨w.heap.size,0,none⟩ (.bool false) (fun _=>rfl)) ?_);rw[aB q5];rfl
  have hfi':((aJ g.op).future&&ins)=false:=by
   cases h1:(aJ g.op).future
   ·rfl
   ·cases h2:ins
    ·rfl
    ·exact absurd ⟨h1,h2⟩ hfi
  have yK:=hid hfi';clear hfi
  cases hfu:(aJ g.op).future <;> rw[hfu]at hfo <;> (have WG:=hid hfu) <;> clear hfu
  ·by_cases h4:g.op=4
   ·have hal:=vg HSP.out h4
    obtain⟨b1,o1,A1,c1,a0,rfl,ha0,hfa⟩:=ZB.out.get hal;have Ea:=hid (fun (W':World) (hb:Below W3.heap.size W3 W')=>(show W'.cell? ⟨b1,o1,none⟩=some (.int .i64 a0.op)from(hb.cell (p:=⟨b1,o1,none⟩) hfa.lt).trans (by have:=hfa.c0;simpa using this)));have HA0:=hid ha0.out;have H4:=hid h4;have hali:(0:Int)<g.args.length:=by omega
    rw[h4]at hfo g0 HAT;clear ha0 hfa hal h4
    by_cases h3:a0.op=3
    ·have ER:=hid (show bY (g,_)=true from by unfold bY AP;dsimp only;rw[sH.out,HSP.out,yK.out,HA0.out,h3];simp)
     rw[h3]at Ea;clear h3
     gi_wp2_with (first|(gi_at_call 52;refine(CallsIn.inRound l (callsIn_wide.2 hfo)).mono ?_;rintro e W4 ⟨rfl,hb4⟩;have hb6:=hb4;obtain⟨y0,y4,q0,r0,r1,r2⟩:=HAT.out _ hb4)|(gi_at_call 119;go_loud (refine(CallsIn.inRound l (callsIn_wide.2 (xE.out _ (hb4.alloc hb4.size _)))).mono ?_;rintro e W5 ⟨rfl,hb5⟩;have kV:=(hb4.alloc hb4.size (.cells #[.int .i64 (aJ 4).least,.int .i64 (aJ 4).most,.int .i64 (aJ 4).val,.int .i64 (aJ 4).bound,.bool (aJ 4).named,.bool (aJ 4).past,.bool false,.bool true] 78)).trans (hb5.mono (by simp;have:=hb4.size;omega));obtain⟨y0,y4,q5,r0,r1,r2⟩:=HAT.out _ kV;have p6:=(hb5.cell (p:=⟨W4.heap.size,6,none⟩) (by simp)).trans (jO W4 _ _ _ 6 (.bool false) rfl rfl);(try(have y5:=Ea.out _ kV)))))
     exact Ho.out _ ER.out (aH.aS (V:=fun b=>b=w.heap.size) kV) q5
    ·have ER:=hid (show bY (g,_)=false from by unfold bY AP;dsimp only;rw[HA0.out,H4.out,decide_eq_false h3];simp)
     have h3':=ay h3;clear h3
     gi_wp2_with (first|(gi_at_call 52;refine(CallsIn.inRound l (callsIn_wide.2 hfo)).mono ?_;rintro e W4 ⟨rfl,hb4⟩;have hb6:=hb4;obtain⟨y0,y4,q0,r0,r1,r2⟩:=HAT.out _ hb4)|(gi_at_call 119;go_loud (refine(CallsIn.inRound l (callsIn_wide.2 (xE.out _ (hb4.alloc hb4.size _)))).mono ?_;rintro e W5 ⟨rfl,hb5⟩;have kV:=(hb4.alloc hb4.size (.cells #[.int .i64 (aJ 4).least,.int .i64 (aJ 4).most,.int .i64 (aJ 4).val,.int .i64 (aJ 4).bound,.bool (aJ 4).named,.bool (aJ 4).past,.bool false,.bool true] 78)).trans (hb5.mono (by simp;have:=hb4.size;omega));obtain⟨y0,y4,q5,r0,r1,r2⟩:=HAT.out _ kV;have p6:=(hb5.cell (p:=⟨W4.heap.size,6,none⟩) (by simp)).trans (jO W4 _ _ _ 6 (.bool false) rfl rfl);(try(have y5:=Ea.out _ kV)))))
     refine(fun z=>⟨z.1,rfl,z.2⟩) (JW.out _ ER.out ((aH.aS (V:=fun b=>b=w.heap.size) kV).set ⟨w.heap.size,0,none⟩ (.bool false) (fun _=>rfl)) ?_);rw[aB q5];rfl
   ·have ER:=hid (show bY (g,_)=true from by unfold bY AP;dsimp only;rw[sH.out,HSP.out,yK.out,decide_eq_false h4];simp)
    have h4':=ay h4;clear h4
    gi_wp2_with (first|(gi_at_call 52;refine(CallsIn.inRound l (callsIn_wide.2 hfo)).mono ?_;rintro e W4 ⟨rfl,hb4⟩;have hb6:=hb4;obtain⟨y0,y4,q0,r0,r1,r2⟩:=HAT.out _ hb4)|(gi_at_call 119;go_loud (refine(CallsIn.inRound l (callsIn_wide.2 (xE.out _ (hb4.alloc hb4.size _)))).mono ?_;rintro e W5 ⟨rfl,hb5⟩;have kV:=(hb4.alloc hb4.size (.cells #[.int .i64 (aJ g.op).least,.int .i64 (aJ g.op).most,.int .i64 (aJ g.op).val,.int .i64 (aJ g.op).bound,.bool (aJ g.op).named,.bool (aJ g.op).past,.bool false,.bool true] 78)).trans (hb5.mono (by simp;have:=hb4.size;omega));obtain⟨y0,y4,q5,r0,r1,r2⟩:=HAT.out _ kV;have p6:=(hb5.cell (p:=⟨W4.heap.size,6,none⟩) (by simp)).trans (jO W4 _ _ _ 6 (.bool false) rfl rfl);(try(have y5:=Ea.out _ kV)))))
    exact Ho.out _ ER.out (aH.aS (V:=fun b=>b=w.heap.size) kV) q5
  ·obtain rfl:ins=false:=by
    have:=yK.out;rw[WG.out]at this;cases ins
    ·rfl
    ·cases this
   by_cases h4:g.op=4
   ·have hal:=vg HSP.out h4
    obtain⟨b1,o1,A1,c1,a0,rfl,ha0,hfa⟩:=ZB.out.get hal;have Ea:=hid (fun (W':World) (hb:Below W3.heap.size W3 W')=>(show W'.cell? ⟨b1,o1,none⟩=some (.int .i64 a0.op)from(hb.cell (p:=⟨b1,o1,none⟩) hfa.lt).trans (by have:=hfa.c0;simpa using this)));have HA0:=hid ha0.out;have H4:=hid h4;have hali:(0:Int)<g.args.length:=by omega
    rw[h4]at hfo g0 HAT;clear ha0 hfa hal h4
    by_cases h3:a0.op=3
    ·have ER:=hid (show bY (g,_)=true from by unfold bY AP;dsimp only;rw[sH.out,HSP.out,yK.out,HA0.out,h3];simp)
     rw[h3]at Ea;clear h3
     gi_wp2_with (first|(gi_at_call 52;refine(CallsIn.inRound l (callsIn_wide.2 hfo)).mono ?_;rintro e W4 ⟨rfl,hb4⟩;have hb6:=hb4;obtain⟨y0,y4,q0,r0,r1,r2⟩:=HAT.out _ hb4)|(gi_at_call 119;go_loud (refine(CallsIn.inRound l (callsIn_wide.2 (xE.out _ (hb4.alloc hb4.size _)))).mono ?_;rintro e W5 ⟨rfl,hb5⟩;have kV:=(hb4.alloc hb4.size (.cells #[.int .i64 (aJ 4).least,.int .i64 (aJ 4).most,.int .i64 (aJ 4).val,.int .i64 (aJ 4).bound,.bool (aJ 4).named,.bool (aJ 4).past,.bool true,.bool true] 78)).trans (hb5.mono (by simp;have:=hb4.size;omega));obtain⟨y0,y4,q5,r0,r1,r2⟩:=HAT.out _ kV;have p6:=(hb5.cell (p:=⟨W4.heap.size,6,none⟩) (by simp)).trans (jO W4 _ _ _ 6 (.bool true) rfl rfl);(try(have y5:=Ea.out _ kV)))))
     exact Ho.out _ ER.out (aH.aS (V:=fun b=>b=w.heap.size) kV) q5
    ·have ER:=hid (show bY (g,_)=false from by unfold bY AP;dsimp only;rw[HA0.out,H4.out,decide_eq_false h3];simp)
     have h3':=ay h3;clear h3
     gi_wp2_with (first|(gi_at_call 52;refine(CallsIn.inRound l (callsIn_wide.2 hfo)).mono ?_;rintro e W4 ⟨rfl,hb4⟩;have hb6:=hb4;obtain⟨y0,y4,q0,r0,r1,r2⟩:=HAT.out _ hb4)|(gi_at_call 119;go_loud (refine(CallsIn.inRound l (callsIn_wide.2 (xE.out _ (hb4.alloc hb4.size _)))).mono ?_;rintro e W5 ⟨rfl,hb5⟩;have kV:=(hb4.alloc hb4.size (.cells #[.int .i64 (aJ 4).least,.int .i64 (aJ 4).most,.int .i64 (aJ 4).val,.int .i64 (aJ 4).bound,.bool (aJ 4).named,.bool (aJ 4).past,.bool true,.bool true] 78)).trans (hb5.mono (by simp;have:=hb4.size;omega));obtain⟨y0,y4,q5,r0,r1,r2⟩:=HAT.out _ kV;have p6:=(hb5.cell (p:=⟨W4.heap.size,6,none⟩) (by simp)).trans (jO W4 _ _ _ 6 (.bool true) rfl rfl);(try(have y5:=Ea.out _ kV)))))
     refine(fun z=>⟨z.1,rfl,z.2⟩) (JW.out _ ER.out ((aH.aS (V:=fun b=>b=w.heap.size) kV).set ⟨w.heap.size,0,none⟩ (.bool false) (fun _=>rfl)) ?_);rw[aB q5];rfl
   ·have ER:=hid (show bY (g,_)=true from by unfold bY AP;dsimp only;rw[sH.out,HSP.out,yK.out,decide_eq_false h4];simp)
    have h4':=ay h4;clear h4
    gi_wp2_with (first|(gi_at_call 52;refine(CallsIn.inRound l (callsIn_wide.2 hfo)).mono ?_;rintro e W4 ⟨rfl,hb4⟩;have hb6:=hb4;obtain⟨y0,y4,q0,r0,r1,r2⟩:=HAT.out _ hb4)|(gi_at_call 119;go_loud (refine(CallsIn.inRound l (callsIn_wide.2 (xE.out _ (hb4.alloc hb4.size _)))).mono ?_;rintro e W5 ⟨rfl,hb5⟩;have kV:=(hb4.alloc hb4.size (.cells #[.int .i64 (aJ g.op).least,.int .i64 (aJ g.op).most,.int .i64 (aJ g.op).val,.int .i64 (aJ g.op).bound,.bool (aJ g.op).named,.bool (aJ g.op).past,.bool true,.bool true] 78)).trans (hb5.mono (by simp;have:=hb4.size;omega));obtain⟨y0,y4,q5,r0,r1,r2⟩:=HAT.out _ kV;have p6:=(hb5.cell (p:=⟨W4.heap.size,6,none⟩) (by simp)).trans (jO W4 _ _ _ 6 (.bool true) rfl rfl);(try(have y5:=Ea.out _ kV)))))
    exact Ho.out _ ER.out (aH.aS (V:=fun b=>b=w.heap.size) kV) q5
 case hdone =>
  rintro W3 hc ⟨h1,h2⟩ hD3;have r0:=aj h2 (i:=0) rfl;have r1:=aA h2 (i:=0);have r2:=lt_of_block h2
  dsimp only
  go_wp2_with fail
  have hD4:=(at_set (w:=W3) (p:=⟨w.heap.size,0,none⟩) (u := .bool true) (show W2.heap.size≠w.heap.size by have:=HS2.out;omega)).trans hD3;have e4:(W3.setCell ⟨w.heap.size,0,none⟩ (.bool true)).heap[w.heap.size]?=some (.cells #[.bool true] 4 (0,0)):=by rw[aB h2];rfl
  have hc4:=(HB2.out.trans (hc.below (B:=w.heap.size) (fun b hb=>by omega) HB2.out.size)).setCell (p:=⟨w.heap.size,0,none⟩) (by simp) (.bool true);refine gy rfl hD4 (v := .bool true) (fun w' hc'=>?_) (fun w' hc'=>⟨by rw[sU h1],hc4.trans (hc'.below (fun b hb=>by have:=HS2.out;omega) hc4.size)⟩);have:=aj (hc'.box e4 (by have:=HS2.out;omega)) (i:=0) rfl;simp[results,Tryz.results81,go_sem,this]
 case hstop =>
  rintro c W3 hc ⟨rfl,h1,h2⟩ hD3
  dsimp only
  go_wp2_with fail
  have hc4:=HB2.out.trans (hc.below (B:=w.heap.size) (fun b hb=>by omega) HB2.out.size);refine gy rfl hD3 (v := .bool false) (fun w' hc'=>?_) (fun w' hc'=>⟨by rw[h1],hc4.trans (hc'.below (fun b hb=>by have:=HS2.out;omega) hc4.size)⟩);have:=aj (hc'.box h2 (by have:=HS2.out;omega)) (i:=0) rfl;simp[results,Tryz.results81,go_sem,this]
end Go.Proofs.YtdpbgcmfeajigaaGreatDoor
namespace Go.Proofs.YtdpbgcmfeajigaaGreatDoor
open Go.RowKit Go.Shelf
attribute [local go_sem] ak Oper.semAt_some
def bG (f:Fm):Bool:=bM f 400 60&&allB bY f
def iI (f:Fm):Bool:=bM f 60 20&&allB bY f
theorem Vf {D:Dom}(f:Fm)(b o:Nat)(A:Option Addr)(c:Nat)(w:World)(h:dR w D b o f A c)(hg:GF w)(hk:GK w) :
  Calls Tryz.prog 72 #[.pointer (some ⟨b,o,none⟩)] w fun e w'=>e = .returned (.bool (bG f))/\Below w.heap.size w w':=by
 have HH:=hid h.old;have HG:=hid hg;have HK:=hid hk;have Hq:=hid (zI f b o A c 400 60 w h (by decide) (by decide) (by decide) (by decide));clear h hg hk;cases hfit:bM f 400 60
 ·have HR:=hid (show bG f=false by unfold bG;rw[hfit];rfl)
  rw[hfit]at Hq;clear hfit
  go_enter Tryz.func72,Tryz.ntmps72
  go_wp2_with (first|(go_at_call 80;refine Hq.out.mono ?_;rintro e V ⟨rfl,jU⟩))
  go_ret
  exact⟨aC HR.out.symm,jU⟩
 ·have HR:=hid (show bG f=allB bY f by unfold bG;rw[hfit];rfl)
  have HD:=hid (show f.depth<=5000 by have:=(gV.1 hfit).2;omega);rw[hfit]at Hq;clear hfit
  go_enter Tryz.func72,Tryz.ntmps72
  go_wp2_with (first|(go_at_call 80;refine Hq.out.mono ?_;rintro e V ⟨rfl,jU⟩)|(go_at_call 81;refine(MF f b o A c V (HH.out.keep (Keeps.of_below jU fun _ h=>h)) (HG.out.below jU HG.out.pos) (HK.out.below jU HK.out.pos) HD.out).mono ?_;rintro e w2 ⟨rfl,hb2⟩))
  go_ret
  exact⟨aC HR.out.symm,jU.trans (hb2.mono jU.size)⟩
theorem Ky {D:Dom}(f:Fm)(v:Value)(w:World)(h:bI w D v f)(hg:GF w)(hk:GK w) :
  Calls Tryz.prog 29 #[v] w fun e w'=>e = .returned (.bool (iI f))/\Below w.heap.size w w':=by
 obtain⟨A,c,rfl,ha⟩:=h;have HA:=hid ha.old;have HG:=hid hg;have HK:=hid hk;clear ha hg hk
 go_enter Tryz.func29,Tryz.ntmps29
 go_upto_region 1 with(fail)
 refine aF fun W hW=>?_;have hb:Below w.heap.size w W:=by rw[hW];go_grown
 have e0:dF W w.heap.size f A c:=by
  show W.heap[w.heap.size]?=_;rw[hW];exact at_new _ _ _ rfl
 have HB:=hid hb;have HH:=hid (dF.yH (D:=(· < W.heap.size)) e0 (lt_of_block e0) ((HA.out.keep (Keeps.of_below HB.out fun _ h=>h)).mono fun k hk hl=>hl));have Hq:=hid (zI f w.heap.size 0 A c 60 20 W HH.out (by decide) (by decide) (by decide) (by decide));clear hW hb e0;cases hfit:bM f 60 20
 ·have HR:=hid (show iI f=false by unfold iI;rw[hfit];rfl)
  rw[hfit]at Hq;clear hfit;go_wp2_with (first|(go_at_call 80;refine Hq.out.mono ?_;rintro e V ⟨rfl,jU⟩))
  go_ret
  exact⟨aC HR.out.symm,HB.out.trans (jU.mono HB.out.size)⟩
 ·have HR:=hid (show iI f=allB bY f by unfold iI;rw[hfit];rfl)
  have HD:=hid (show f.depth<=5000 by have:=(gV.1 hfit).2;omega);rw[hfit]at Hq;clear hfit;go_wp2_with (first|(go_at_call 80;refine Hq.out.mono ?_;rintro e V ⟨rfl,jU⟩;have hbw:=HB.out.trans (jU.mono HB.out.size))|(go_at_call 81;refine(MF f w.heap.size 0 A c V (HH.out.keep (Keeps.of_below jU fun _ h=>h)) (HG.out.below hbw HG.out.pos) (HK.out.below hbw HK.out.pos) HD.out).mono ?_;rintro e w2 ⟨rfl,hb2⟩))
  go_ret
  exact⟨aC HR.out.symm,hbw.trans (hb2.mono hbw.size)⟩
end Go.Proofs.YtdpbgcmfeajigaaGreatDoor
