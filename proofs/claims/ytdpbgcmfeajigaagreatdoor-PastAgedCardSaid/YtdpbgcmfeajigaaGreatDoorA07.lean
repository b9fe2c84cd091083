/-
  Parts of a proof: FP FQ FR.
-/
import Derived.Test.YtdpbgcmfeajigaaGreatDoorA03
import Derived.Test.YtdpbgcmfeajigaaGreatDoorA06
set_option linter.unusedSimpArgs false
set_option linter.unusedVariables false
set_option maxHeartbeats 8000000
set_option maxRecDepth 100000
namespace Go.Proofs.YtdpbgcmfeajigaaGreatDoor
def cO (neg:Bool)(o:Int):Int:=if neg then Ub (FN o)else FN o
def RD (o:Int):Bool:=decide (o=15) || decide (o=16) || decide (o=17)
def uY (o:Int):Bool:=decide (o=11) || decide (o=12) || decide (o=18) || decide (o=19)
def nO (neg:Bool)(o v:Int):Int:=if RD o then(if neg then 1-v else v)else if uY o&&decide (cO neg o=17)then 1 else v
def o7 (neg:Bool)(o:Int):List Fm:=if uY o then [kV (if cO neg o=9\/cO neg o=16 then 1 else 2) []]else []
def oH (o:Int):Nat->Fm->Fm
 | 0,f=>f
 | n+1,f=>kV o [f,kV 8 [oH o n f]]
def Zi (neg:Bool)(o:Int)(n:ByteArray)(v b:Int)(ga:List Fm):Fm :=
 if o=4 then ga.headD default
 else if o=3 then(if neg then kV 4 [Xt n v]else .mk 3 n v 0 ga)
 else if o=13\/o=14 then oH (cO neg o) b.toNat (ga.headD default)
 else .mk (cO neg o) n (nO neg o v) 0 (o7 neg o++ga)
mutual
def kf:Bool->Fm->Fm
 | neg,.mk o n v b l=>Zi neg o n v b (Ht (if o=4\/o=7 then !neg else neg) (if o=4 then !neg else neg) l)
def Ht:Bool->Bool->List Fm->List Fm
 | _,_,[] => []
 | a,r,f :: l=>kf a f :: Ht r r l
end
def rG (neg:Bool)(o:Int):Bool:=if o=4\/o=7 then !neg else neg
def qj (neg:Bool)(o:Int):Bool:=if o=4 then !neg else neg
theorem NW (neg:Bool)(f:Fm):kf neg f=Zi neg f.op f.name f.val f.bound (Ht (rG neg f.op) (qj neg f.op) f.args):=by
 cases f;simp only[kf,Fm.op,Fm.name,Fm.val,Fm.bound,Fm.args,rG,qj];rfl
theorem KI:∀(a r:Bool) (l:List Fm),(Ht a r l).length=l.length
 | _,_,[]=>rfl
 | _,r,f :: l=>by simp only[Ht,List.length_cons,KI r r l]
theorem Zk:∀(r:Bool) (l:List Fm),Ht r r l=l.map (kf r)
 | _,[]=>rfl
 | r,f :: l=>by simp only[Ht,Zk r l,List.map_cons]
theorem qbE:∀(a r:Bool) (l:List Fm) (i:Nat),i<l.length->(Ht a r l).getD i default=kf (if i=0 then a else r) (l.getD i default)
 | _,_,[],i,h=>absurd h (Nat.not_lt_zero _)
 | a,r,f :: l,0,_=>by simp[Ht]
 | a,r,f :: l,i+1,h=>by
  have h':i<l.length:=by simpa using h
  simp only[Ht,Zk,List.getD_cons_succ,List.getD_eq_getElem?_getD,List.getElem?_cons_succ,List.getElem?_map];simp[h']
theorem Zl (a r:Bool)(l:List Fm){i:Nat}(h:i<l.length):(Ht a r l).take (i+1)=(Ht a r l).take i ++ [kf (if i=0 then a else r) (l.getD i default)]:=by
 rw[bP _ default (by rw[KI];exact h),qbE a r l i h]
end Go.Proofs.YtdpbgcmfeajigaaGreatDoor
namespace Go.Proofs.YtdpbgcmfeajigaaGreatDoor
open Go.RowKit Go.Shelf
attribute [local go_sem] ak Oper.semAt_some
def Ba (g:Fm):Bool := !(decide (g.op=4) && !decide ((g.args.getD 0 default).op=3))
def bU (x:Fm×Bool):Bool:=(aJ x.1.op).loose&&bW x.1 && !((aJ x.1.op).future&&x.2)&&Ba x.1
theorem vI {g:Fm}(h:bW g=true)(h4:g.op=4):0<g.args.length:=by
 unfold bW at h;simp only[Bool.and_eq_true,decide_eq_true_eq]at h;have h1:=h.1.1.1.1.1.1.2;rw[h4]at h1;have:(aJ 4).least=1:=by rfl
 omega
theorem Na {D:Dom}(f:Fm)(b o:Nat)(A:Option Addr)(c:Nat)(w:World)(h:dU w D b o f A c)(hg:GF w)(hk:GK w)(hd:f.depth<=5000) :
  Calls Tryz.prog 81 #[.pointer (some ⟨b,o,none⟩)] w λ e w'=>e = .returned (.bool (allB bU f))/\Below w.heap.size w w':=by
 have HH:=hid h.old;have HG:=hid hg;have HK:=hid hk;have HD:=hid hd;clear h hg hk hd;refine(callsIn_wide (n:=3)).1 (callsIn_of_wp_marks Tryz.func81 rfl trivial ?_ rfl);simp only[Tryz.ntmps81,List.size_toArray,List.length_cons,List.length_nil,Nat.reduceAdd,Nat.reduceSub,Array.replicate_succ,Array.replicate_zero,List.push_toArray,List.append_toArray,List.nil_append,List.cons_append];refine wpIn_wide.2 ?_;go_upto_region 1 with(fail)
 refine aC λ W hW=>?_;have hb:Below w.heap.size w W:=by rw[hW];go_grown
 have e1:W.heap[w.heap.size]?=some (.cells #[.bool false] 4 (0,0)):=by rw[hW];exact at_new _ _ _ rfl
 have hs:w.heap.size+1<=W.heap.size:=by rw[hW];simp
 have HB:=hid hb;have kG:=hid e1;have HS:=hid hs;clear hW hb e1 hs;go_wp2_with (first|(go_at_call 51;refine(yD _ W).mono ?_;rintro e w2 ⟨rfl,rfl⟩))
 refine aC λ W2 hW2=>?_;have hb2:Below W.heap.size W W2:=by rw[hW2];go_grown
 have hp2:W2.cell? ⟨W.heap.size,0,none⟩=some (.pointer (some ⟨b,o,none⟩)):=by rw[hW2];exact aj (at_new _ _ _ rfl) (i:=0) rfl
 have hs2:w.heap.size+2<=W2.heap.size:=by rw[hW2];simp;have:=HS.out;omega
 have HB2:=hid (HB.out.trans (hb2.mono HB.out.size));have hE1:W2.heap[w.heap.size]?=some (.cells #[.bool false] 4 (0,0)):=(hb2.block _ (by have:=HS.out;omega)).trans kG.out;have HF:=hid (HH.out.keep (Keeps.of_below HB2.out λ _ h=>h));have HP:=hid hp2;have HS2:=hid hs2;have wK:=hid hE1;have HG2:=hid (HG.out.below HB2.out HG.out.pos);have zT:=hid (HK.out.below HB2.out HK.out.pos);clear hW2 hb2 hp2 hs2 hE1
 refine sD f (b) (o) W.heap.size (w.heap.size) A c (λ b=>b=w.heap.size)
  (λ k W'=>vS bU f k/\W'.heap[w.heap.size]?=some (.cells #[.bool false] 4 (0,0)))
  (λ c W'=>c = .ret/\allB bU f=false/\W'.heap[w.heap.size]?=some (.cells #[.bool false] 4 (0,0)))
  rfl rfl HF.out (by have:=HG.out.pos;omega) (by have:=HS2.out;omega) HP.out HG2.out HD.out ?hZ ?hI ?hIx ⟨qL _ _,wK.out⟩ ?a1 ?hassign ?dY ?hdone ?hstop
 case hassign =>
  intro l p q W K hK
  gi_wp2
  exact hK
 case hZ=>intro b hb;have:=HS2.out;omega
 case hI=>rintro k W3 W4 ⟨h1,h2⟩ hc;exact⟨h1,hc.box h2 (by have:=HS2.out;omega)⟩
 case hIx=>rintro c W3 W4 ⟨h0,h1,h2⟩ hc;exact⟨h0,h1,hc.box h2 (by have:=HS2.out;omega)⟩
 case dY =>
  rintro l k W3 b o A' c' hs3 hg3 hc3 ⟨hk1,hk2⟩ hlen hf3;generalize hx:(fA false f).getD k default=x at hf3⊢;obtain⟨g,ins⟩:=x;have hq:bU ((fA false f).getD k default)=bU (g,ins):=by rw[hx]
  have UK:=hid hk1;have uO:=hid hk2;have HLEN:=hid hlen;have HQ:=hid hq;have Dk:=hid hc3;clear hk1 hk2 hx hlen hq hc3;have OKE:∀W4:World,bU (g,ins)=true->aH (λ b=>b=w.heap.size) W3 W4->W4.heap[w.heap.size]?=some (.cells #[.bool false] 4 (0,0))->aH (λ b=>b=w.heap.size) W3 W4/\vS bU f (k+1)/\W4.heap[w.heap.size]?=some (.cells #[.bool false] 4 (0,0)) := λ W4 h1 h2 h3=>⟨h2,qK UK.out (HQ.out.trans h1),h3⟩;have NOE:∀W4:World,bU (g,ins)=false->aH (λ b=>b=w.heap.size) W3 W4->W4.heap[w.heap.size]?=some (.cells #[.bool false] 4 (0,0))->aH (λ b=>b=w.heap.size) W3 W4/\allB bU f=false/\W4.heap[w.heap.size]?=some (.cells #[.bool false] 4 (0,0)) := λ W4 h1 h2 h3=>⟨h2,uP HLEN.out (HQ.out.trans h1),h3⟩
  have Hw:=hid OKE;have J4:=hid NOE;have NQ:Fence.wide.fn 52:=trivial;have hfn2:Fence.wide.fn 119:=trivial;have hfd:Fence.wide.depth=none:=rfl;clear OKE NOE;have q0:=uO.out;have r0:=aj q0 (i:=0) rfl;have r1:=aA q0 (i:=0);have r2:=lt_of_block q0;clear q0;obtain⟨gd,gl,g0,g1,g2,g3,g4,ga⟩:=hf3;have hfo:=qO g.op W3 hg3;unfold I8 at hfo;have xK:=hid (λ (W':World) (hb:Below W3.heap.size W3 W')=>GR g b o A' c' W' (dU.keep (D:=(· < W3.heap.size)) ⟨gl,gl,g0,g1,g2,g3,g4,ga.old⟩ (Keeps.of_below hb λ _ h=>h)) (hg3.below hb hg3.pos) ((zT.out.below (Dk.out.below (B:=w.heap.size) (λ b hb=>by omega) (by have:=HS2.out;omega)) HK.out.pos).below hb (by have:=HS2.out;have:=HK.out.pos;omega)))
  have HAT:=hid (λ (W':World) (hb:Below W3.heap.size W3 W')=>(show W'.cell? ⟨b,o,none⟩=some (.int .i64 g.op)/\W'.cell? ⟨b,o+4,none⟩=some (.slice A' g.args.length c')/\W'.heap[w.heap.size]?=some (.cells #[.bool false] 4 (0,0))/\W'.cell? ⟨w.heap.size,0,none⟩=some (.bool false)/\W'.frozen? ⟨w.heap.size,0,none⟩=false/\w.heap.size<W'.heap.size from
   have q0:=(hb.block _ (lt_of_block uO.out)).trans uO.out
   ⟨(hb.cell (p:=⟨b,o,none⟩) gl).trans g0,(hb.cell (p:=⟨b,o+4,none⟩) gl).trans g4,q0,aj q0 (i:=0) rfl,aA q0 (i:=0),lt_of_block q0⟩))
  have Xh:=hid ga.old;clear hg3 ga g1 g2 g3 r0 r1 r2
  cases hlo:(aJ g.op).loose <;> rw[hlo]at hfo <;> (have sW:=hid hlo) <;> clear hlo
  ·gi_wp2_with (first|(gi_at_call 52;refine(CallsIn.inRound l (callsIn_wide.2 hfo)).mono ?_;rintro e W4 ⟨rfl,hb4⟩;have hb6:=hb4;obtain⟨y0,y4,q0,r0,r1,r2⟩:=HAT.out _ hb4)|(gi_at_call 119;go_loud (refine(CallsIn.inRound l (callsIn_wide.2 (xK.out _ (hb4.alloc hb4.size _)))).mono ?_;rintro e W5 ⟨rfl,hb5⟩;have lD:=(hb4.alloc hb4.size (.cells #[.int .i64 (aJ g.op).least,.int .i64 (aJ g.op).most,.int .i64 (aJ g.op).val,.int .i64 (aJ g.op).bound,.bool (aJ g.op).named,.bool (aJ g.op).past,.bool (aJ g.op).future,.bool true] 78)).trans (hb5.mono (by simp;have:=hb4.size;omega));obtain⟨y0,y4,q5,r0,r1,r2⟩:=HAT.out _ lD;have p6:=(hb5.cell (p:=⟨W4.heap.size,6,none⟩) (by simp)).trans (jS W4 _ _ _ 6 (.bool (aJ g.op).future) rfl rfl);(try(have y5:=Ec.out _ lD)))))
   refine(λ z=>⟨z.1,rfl,z.2⟩) (J4.out _ (by unfold bU;rw[sW.out];rfl) (((aH.aS (V := λ b=>b=w.heap.size) hb4).set ⟨w.heap.size,0,none⟩ (.bool false) (λ _=>rfl)).alloc _) ?_);rw[aQ _ _ _ (by simpa using r2),aB q0];rfl
  cases hsp:bW g <;> rw[hsp]at xK <;> (have HSP:=hid hsp) <;> clear hsp
  ·gi_wp2_with (first|(gi_at_call 52;refine(CallsIn.inRound l (callsIn_wide.2 hfo)).mono ?_;rintro e W4 ⟨rfl,hb4⟩;have hb6:=hb4;obtain⟨y0,y4,q0,r0,r1,r2⟩:=HAT.out _ hb4)|(gi_at_call 119;go_loud (refine(CallsIn.inRound l (callsIn_wide.2 (xK.out _ (hb4.alloc hb4.size _)))).mono ?_;rintro e W5 ⟨rfl,hb5⟩;have lD:=(hb4.alloc hb4.size (.cells #[.int .i64 (aJ g.op).least,.int .i64 (aJ g.op).most,.int .i64 (aJ g.op).val,.int .i64 (aJ g.op).bound,.bool (aJ g.op).named,.bool (aJ g.op).past,.bool (aJ g.op).future,.bool true] 78)).trans (hb5.mono (by simp;have:=hb4.size;omega));obtain⟨y0,y4,q5,r0,r1,r2⟩:=HAT.out _ lD;have p6:=(hb5.cell (p:=⟨W4.heap.size,6,none⟩) (by simp)).trans (jS W4 _ _ _ 6 (.bool (aJ g.op).future) rfl rfl);(try(have y5:=Ec.out _ lD)))))
   refine(λ z=>⟨z.1,rfl,z.2⟩) (J4.out _ (by unfold bU;dsimp only;rw[HSP.out];simp) ((aH.aS (V := λ b=>b=w.heap.size) lD).set ⟨w.heap.size,0,none⟩ (.bool false) (λ _=>rfl)) ?_);rw[aB q5];rfl
  by_cases hfi:(aJ g.op).future=true/\ins=true
  ·obtain⟨hfu,rfl⟩:=hfi
   rw[hfu]at hfo;have XF:=hid hfu;clear hfu
   gi_wp2_with (first|(gi_at_call 52;refine(CallsIn.inRound l (callsIn_wide.2 hfo)).mono ?_;rintro e W4 ⟨rfl,hb4⟩;have hb6:=hb4;obtain⟨y0,y4,q0,r0,r1,r2⟩:=HAT.out _ hb4)|(gi_at_call 119;go_loud (refine(CallsIn.inRound l (callsIn_wide.2 (xK.out _ (hb4.alloc hb4.size _)))).mono ?_;rintro e W5 ⟨rfl,hb5⟩;have lD:=(hb4.alloc hb4.size (.cells #[.int .i64 (aJ g.op).least,.int .i64 (aJ g.op).most,.int .i64 (aJ g.op).val,.int .i64 (aJ g.op).bound,.bool (aJ g.op).named,.bool (aJ g.op).past,.bool true,.bool true] 78)).trans (hb5.mono (by simp;have:=hb4.size;omega));obtain⟨y0,y4,q5,r0,r1,r2⟩:=HAT.out _ lD;have p6:=(hb5.cell (p:=⟨W4.heap.size,6,none⟩) (by simp)).trans (jS W4 _ _ _ 6 (.bool true) rfl rfl);(try(have y5:=Ec.out _ lD)))))
   refine(λ z=>⟨z.1,rfl,z.2⟩) (J4.out _ (by unfold bU;dsimp only;rw[XF.out];simp) ((aH.aS (V := λ b=>b=w.heap.size) lD).set ⟨w.heap.size,0,none⟩ (.bool false) (λ _=>rfl)) ?_);rw[aB q5];rfl
  have hfi':((aJ g.op).future&&ins)=false:=by
   cases h1:(aJ g.op).future
   ·rfl
   ·cases h2:ins
    ·rfl
    ·exact absurd ⟨h1,h2⟩ hfi
  have yQ:=hid hfi';clear hfi
  cases hfu:(aJ g.op).future <;> rw[hfu]at hfo <;> (have XF:=hid hfu) <;> clear hfu
  ·by_cases h4:g.op=4
   ·have hal:=vI HSP.out h4
    obtain⟨b1,o1,A1,c1,a0,rfl,ha0,hfa⟩:=Xh.out.get hal;have Ec:=hid (λ (W':World) (hb:Below W3.heap.size W3 W')=>(show W'.cell? ⟨b1,o1,none⟩=some (.int .i64 a0.op)from(hb.cell (p:=⟨b1,o1,none⟩) hfa.lt).trans (by have:=hfa.c0;simpa using this)));have HA0:=hid ha0.out;have H4:=hid h4;have hali:(0:Int)<g.args.length:=by omega
    rw[h4]at hfo g0 HAT;clear ha0 hfa hal h4
    by_cases h3:a0.op=3
    ·have ES:=hid (show bU (g,_)=true from by unfold bU Ba;dsimp only;rw[sW.out,HSP.out,yQ.out,HA0.out,h3];simp)
     rw[h3]at Ec;clear h3
     gi_wp2_with (first|(gi_at_call 52;refine(CallsIn.inRound l (callsIn_wide.2 hfo)).mono ?_;rintro e W4 ⟨rfl,hb4⟩;have hb6:=hb4;obtain⟨y0,y4,q0,r0,r1,r2⟩:=HAT.out _ hb4)|(gi_at_call 119;go_loud (refine(CallsIn.inRound l (callsIn_wide.2 (xK.out _ (hb4.alloc hb4.size _)))).mono ?_;rintro e W5 ⟨rfl,hb5⟩;have lD:=(hb4.alloc hb4.size (.cells #[.int .i64 (aJ 4).least,.int .i64 (aJ 4).most,.int .i64 (aJ 4).val,.int .i64 (aJ 4).bound,.bool (aJ 4).named,.bool (aJ 4).past,.bool false,.bool true] 78)).trans (hb5.mono (by simp;have:=hb4.size;omega));obtain⟨y0,y4,q5,r0,r1,r2⟩:=HAT.out _ lD;have p6:=(hb5.cell (p:=⟨W4.heap.size,6,none⟩) (by simp)).trans (jS W4 _ _ _ 6 (.bool false) rfl rfl);(try(have y5:=Ec.out _ lD)))))
     exact Hw.out _ ES.out (aH.aS (V := λ b=>b=w.heap.size) lD) q5
    ·have ES:=hid (show bU (g,_)=false from by unfold bU Ba;dsimp only;rw[HA0.out,H4.out,decide_eq_false h3];simp)
     have h3':=ay h3;clear h3
     gi_wp2_with (first|(gi_at_call 52;refine(CallsIn.inRound l (callsIn_wide.2 hfo)).mono ?_;rintro e W4 ⟨rfl,hb4⟩;have hb6:=hb4;obtain⟨y0,y4,q0,r0,r1,r2⟩:=HAT.out _ hb4)|(gi_at_call 119;go_loud (refine(CallsIn.inRound l (callsIn_wide.2 (xK.out _ (hb4.alloc hb4.size _)))).mono ?_;rintro e W5 ⟨rfl,hb5⟩;have lD:=(hb4.alloc hb4.size (.cells #[.int .i64 (aJ 4).least,.int .i64 (aJ 4).most,.int .i64 (aJ 4).val,.int .i64 (aJ 4).bound,.bool (aJ 4).named,.bool (aJ 4).past,.bool false,.bool true] 78)).trans (hb5.mono (by simp;have:=hb4.size;omega));obtain⟨y0,y4,q5,r0,r1,r2⟩:=HAT.out _ lD;have p6:=(hb5.cell (p:=⟨W4.heap.size,6,none⟩) (by simp)).trans (jS W4 _ _ _ 6 (.bool false) rfl rfl);(try(have y5:=Ec.out _ lD)))))
     refine(λ z=>⟨z.1,rfl,z.2⟩) (J4.out _ ES.out ((aH.aS (V := λ b=>b=w.heap.size) lD).set ⟨w.heap.size,0,none⟩ (.bool false) (λ _=>rfl)) ?_);rw[aB q5];rfl
   ·have ES:=hid (show bU (g,_)=true from by unfold bU Ba;dsimp only;rw[sW.out,HSP.out,yQ.out,decide_eq_false h4];simp)
    have h4':=ay h4;clear h4
    gi_wp2_with (first|(gi_at_call 52;refine(CallsIn.inRound l (callsIn_wide.2 hfo)).mono ?_;rintro e W4 ⟨rfl,hb4⟩;have hb6:=hb4;obtain⟨y0,y4,q0,r0,r1,r2⟩:=HAT.out _ hb4)|(gi_at_call 119;go_loud (refine(CallsIn.inRound l (callsIn_wide.2 (xK.out _ (hb4.alloc hb4.size _)))).mono ?_;rintro e W5 ⟨rfl,hb5⟩;have lD:=(hb4.alloc hb4.size (.cells #[.int .i64 (aJ g.op).least,.int .i64 (aJ g.op).most,.int .i64 (aJ g.op).val,.int .i64 (aJ g.op).bound,.bool (aJ g.op).named,.bool (aJ g.op).past,.bool false,.bool true] 78)).trans (hb5.mono (by simp;have:=hb4.size;omega));obtain⟨y0,y4,q5,r0,r1,r2⟩:=HAT.out _ lD;have p6:=(hb5.cell (p:=⟨W4.heap.size,6,none⟩) (by simp)).trans (jS W4 _ _ _ 6 (.bool false) rfl rfl);(try(have y5:=Ec.out _ lD)))))
    exact Hw.out _ ES.out (aH.aS (V := λ b=>b=w.heap.size) lD) q5
  ·obtain rfl:ins=false:=by
    have:=yQ.out;rw[XF.out]at this;cases ins
    ·rfl
    ·cases this
   by_cases h4:g.op=4
   ·have hal:=vI HSP.out h4
    obtain⟨b1,o1,A1,c1,a0,rfl,ha0,hfa⟩:=Xh.out.get hal;have Ec:=hid (λ (W':World) (hb:Below W3.heap.size W3 W')=>(show W'.cell? ⟨b1,o1,none⟩=some (.int .i64 a0.op)from(hb.cell (p:=⟨b1,o1,none⟩) hfa.lt).trans (by have:=hfa.c0;simpa using this)));have HA0:=hid ha0.out;have H4:=hid h4;have hali:(0:Int)<g.args.length:=by omega
    rw[h4]at hfo g0 HAT;clear ha0 hfa hal h4
    by_cases h3:a0.op=3
    ·have ES:=hid (show bU (g,_)=true from by unfold bU Ba;dsimp only;rw[sW.out,HSP.out,yQ.out,HA0.out,h3];simp)
     rw[h3]at Ec;clear h3
     gi_wp2_with (first|(gi_at_call 52;refine(CallsIn.inRound l (callsIn_wide.2 hfo)).mono ?_;rintro e W4 ⟨rfl,hb4⟩;have hb6:=hb4;obtain⟨y0,y4,q0,r0,r1,r2⟩:=HAT.out _ hb4)|(gi_at_call 119;go_loud (refine(CallsIn.inRound l (callsIn_wide.2 (xK.out _ (hb4.alloc hb4.size _)))).mono ?_;rintro e W5 ⟨rfl,hb5⟩;have lD:=(hb4.alloc hb4.size (.cells #[.int .i64 (aJ 4).least,.int .i64 (aJ 4).most,.int .i64 (aJ 4).val,.int .i64 (aJ 4).bound,.bool (aJ 4).named,.bool (aJ 4).past,.bool true,.bool true] 78)).trans (hb5.mono (by simp;have:=hb4.size;omega));obtain⟨y0,y4,q5,r0,r1,r2⟩:=HAT.out _ lD;have p6:=(hb5.cell (p:=⟨W4.heap.size,6,none⟩) (by simp)).trans (jS W4 _ _ _ 6 (.bool true) rfl rfl);(try(have y5:=Ec.out _ lD)))))
     exact Hw.out _ ES.out (aH.aS (V := λ b=>b=w.heap.size) lD) q5
    ·have ES:=hid (show bU (g,_)=false from by unfold bU Ba;dsimp only;rw[HA0.out,H4.out,decide_eq_false h3];simp)
     have h3':=ay h3;clear h3
     gi_wp2_with (first|(gi_at_call 52;refine(CallsIn.inRound l (callsIn_wide.2 hfo)).mono ?_;rintro e W4 ⟨rfl,hb4⟩;have hb6:=hb4;obtain⟨y0,y4,q0,r0,r1,r2⟩:=HAT.out _ hb4)|(gi_at_call 119;go_loud (refine(CallsIn.inRound l (callsIn_wide.2 (xK.out _ (hb4.alloc hb4.size _)))).mono ?_;rintro e W5 ⟨rfl,hb5⟩;have lD:=(hb4.alloc hb4.size (.cells #[.int .i64 (aJ 4).least,.int .i64 (aJ 4).most,.int .i64 (aJ 4).val,.int .i64 (aJ 4).bound,.bool (aJ 4).named,.bool (aJ 4).past,.bool true,.bool true] 78)).trans (hb5.mono (by simp;have:=hb4.size;omega));obtain⟨y0,y4,q5,r0,r1,r2⟩:=HAT.out _ lD;have p6:=(hb5.cell (p:=⟨W4.heap.size,6,none⟩) (by simp)).trans (jS W4 _ _ _ 6 (.bool true) rfl rfl);(try(have y5:=Ec.out _ lD)))))
     refine(λ z=>⟨z.1,rfl,z.2⟩) (J4.out _ ES.out ((aH.aS (V := λ b=>b=w.heap.size) lD).set ⟨w.heap.size,0,none⟩ (.bool false) (λ _=>rfl)) ?_);rw[aB q5];rfl
   ·have ES:=hid (show bU (g,_)=true from by unfold bU Ba;dsimp only;rw[sW.out,HSP.out,yQ.out,decide_eq_false h4];simp)
    have h4':=ay h4;clear h4
    gi_wp2_with (first|(gi_at_call 52;refine(CallsIn.inRound l (callsIn_wide.2 hfo)).mono ?_;rintro e W4 ⟨rfl,hb4⟩;have hb6:=hb4;obtain⟨y0,y4,q0,r0,r1,r2⟩:=HAT.out _ hb4)|(gi_at_call 119;go_loud (refine(CallsIn.inRound l (callsIn_wide.2 (xK.out _ (hb4.alloc hb4.size _)))).mono ?_;rintro e W5 ⟨rfl,hb5⟩;have lD:=(hb4.alloc hb4.size (.cells #[.int .i64 (aJ g.op).least,.int .i64 (aJ g.op).most,.int .i64 (aJ g.op).val,.int .i64 (aJ g.op).bound,.bool (aJ g.op).named,.bool (aJ g.op).past,.bool true,.bool true] 78)).trans (hb5.mono (by simp;have:=hb4.size;omega));obtain⟨y0,y4,q5,r0,r1,r2⟩:=HAT.out _ lD;have p6:=(hb5.cell (p:=⟨W4.heap.size,6,none⟩) (by simp)).trans (jS W4 _ _ _ 6 (.bool true) rfl rfl);(try(have y5:=Ec.out _ lD)))))
    exact Hw.out _ ES.out (aH.aS (V := λ b=>b=w.heap.size) lD) q5
 case hdone =>
  rintro W3 hc ⟨h1,h2⟩ hD3;have r0:=aj h2 (i:=0) rfl;have r1:=aA h2 (i:=0);have r2:=lt_of_block h2
  dsimp only
  go_wp2_with fail
  have hD4:=(at_set (w:=W3) (p:=⟨w.heap.size,0,none⟩) (u := .bool true) (show W2.heap.size≠w.heap.size by have:=HS2.out;omega)).trans hD3;have e4:(W3.setCell ⟨w.heap.size,0,none⟩ (.bool true)).heap[w.heap.size]?=some (.cells #[.bool true] 4 (0,0)):=by rw[aB h2];rfl
  have hc4:=(HB2.out.trans (hc.below (B:=w.heap.size) (λ b hb=>by omega) HB2.out.size)).setCell (p:=⟨w.heap.size,0,none⟩) (by simp) (.bool true);refine fZ rfl hD4 (v := .bool true) (λ w' hc'=>?_) (λ w' hc'=>⟨by rw[tH h1],hc4.trans (hc'.below (λ b hb=>by have:=HS2.out;omega) hc4.size)⟩);have:=aj (hc'.box e4 (by have:=HS2.out;omega)) (i:=0) rfl;simp[results,Tryz.results81,go_sem,this]
 case hstop =>
  rintro c W3 hc ⟨rfl,h1,h2⟩ hD3
  dsimp only
  go_wp2_with fail
  have hc4:=HB2.out.trans (hc.below (B:=w.heap.size) (λ b hb=>by omega) HB2.out.size);refine fZ rfl hD3 (v := .bool false) (λ w' hc'=>?_) (λ w' hc'=>⟨by rw[h1],hc4.trans (hc'.below (λ b hb=>by have:=HS2.out;omega) hc4.size)⟩);have:=aj (hc'.box h2 (by have:=HS2.out;omega)) (i:=0) rfl;simp[results,Tryz.results81,go_sem,this]
end Go.Proofs.YtdpbgcmfeajigaaGreatDoor
namespace Go.Proofs.YtdpbgcmfeajigaaGreatDoor
open Go.RowKit Go.Shelf
attribute [local go_sem] ak Oper.semAt_some
def bf (f:Fm):Bool:=bK f 400 60&&allB bU f
def fU (f:Fm):Bool:=bK f 60 20&&allB bU f
theorem Wi {D:Dom}(f:Fm)(b o:Nat)(A:Option Addr)(c:Nat)(w:World)(h:dU w D b o f A c)(hg:GF w)(hk:GK w) :
  Calls Tryz.prog 72 #[.pointer (some ⟨b,o,none⟩)] w λ e w'=>e = .returned (.bool (bf f))/\Below w.heap.size w w':=by
 have HH:=hid h.old;have HG:=hid hg;have HK:=hid hk;have Hy:=hid (zM f b o A c 400 60 w h (by decide) (by decide) (by decide) (by decide));clear h hg hk;cases hfit:bK f 400 60
 ·have HR:=hid (show bf f=false by unfold bf;rw[hfit];rfl)
  rw[hfit]at Hy;clear hfit
  go_enter Tryz.func72,Tryz.ntmps72
  go_wp2_with (first|(go_at_call 80;refine Hy.out.mono ?_;rintro e V ⟨rfl,ku⟩))
  go_ret
  exact⟨aF HR.out.symm,ku⟩
 ·have HR:=hid (show bf f=allB bU f by unfold bf;rw[hfit];rfl)
  have HD:=hid (show f.depth<=5000 by have:=(gJ.1 hfit).2;omega);rw[hfit]at Hy;clear hfit
  go_enter Tryz.func72,Tryz.ntmps72
  go_wp2_with (first|(go_at_call 80;refine Hy.out.mono ?_;rintro e V ⟨rfl,ku⟩)|(go_at_call 81;refine(Na f b o A c V (HH.out.keep (Keeps.of_below ku λ _ h=>h)) (HG.out.below ku HG.out.pos) (HK.out.below ku HK.out.pos) HD.out).mono ?_;rintro e w2 ⟨rfl,hb2⟩))
  go_ret
  exact⟨aF HR.out.symm,ku.trans (hb2.mono ku.size)⟩
theorem AP {D:Dom}(f:Fm)(v:Value)(w:World)(h:bI w D v f)(hg:GF w)(hk:GK w) :
  Calls Tryz.prog 29 #[v] w λ e w'=>e = .returned (.bool (fU f))/\Below w.heap.size w w':=by
 obtain⟨A,c,rfl,ha⟩:=h;have HA:=hid ha.old;have HG:=hid hg;have HK:=hid hk;clear ha hg hk
 go_enter Tryz.func29,Tryz.ntmps29
 go_upto_region 1 with(fail)
 refine aC λ W hW=>?_;have hb:Below w.heap.size w W:=by rw[hW];go_grown
 have e0:dH W w.heap.size f A c:=by
  show W.heap[w.heap.size]?=_;rw[hW];exact at_new _ _ _ rfl
 have HB:=hid hb;have HH:=hid (dH.yN (D:=(· < W.heap.size)) e0 (lt_of_block e0) ((HA.out.keep (Keeps.of_below HB.out λ _ h=>h)).mono λ k hk hl=>hl));have Hy:=hid (zM f w.heap.size 0 A c 60 20 W HH.out (by decide) (by decide) (by decide) (by decide));clear hW hb e0;cases hfit:bK f 60 20
 ·have HR:=hid (show fU f=false by unfold fU;rw[hfit];rfl)
  rw[hfit]at Hy;clear hfit;go_wp2_with (first|(go_at_call 80;refine Hy.out.mono ?_;rintro e V ⟨rfl,ku⟩))
  go_ret
  exact⟨aF HR.out.symm,HB.out.trans (ku.mono HB.out.size)⟩
 ·have HR:=hid (show fU f=allB bU f by unfold fU;rw[hfit];rfl)
  have HD:=hid (show f.depth<=5000 by have:=(gJ.1 hfit).2;omega);rw[hfit]at Hy;clear hfit;go_wp2_with (first|(go_at_call 80;refine Hy.out.mono ?_;rintro e V ⟨rfl,ku⟩;have hbw:=HB.out.trans (ku.mono HB.out.size))|(go_at_call 81;refine(Na f w.heap.size 0 A c V (HH.out.keep (Keeps.of_below ku λ _ h=>h)) (HG.out.below hbw HG.out.pos) (HK.out.below hbw HK.out.pos) HD.out).mono ?_;rintro e w2 ⟨rfl,hb2⟩))
  go_ret
  exact⟨aF HR.out.symm,hbw.trans (hb2.mono hbw.size)⟩
end Go.Proofs.YtdpbgcmfeajigaaGreatDoor
