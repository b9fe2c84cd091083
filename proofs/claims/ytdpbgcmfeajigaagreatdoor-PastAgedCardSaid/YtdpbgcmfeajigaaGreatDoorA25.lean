/-
  Parts of a proof: PK PL PM PN PO PQ PR PS PT PU PV.
-/
import Derived.Test.YtdpbgcmfeajigaaGreatDoorA24
set_option linter.unusedSimpArgs false
set_option linter.unusedVariables false
set_option maxHeartbeats 8000000
set_option maxRecDepth 100000
namespace Go.Proofs.YtdpbgcmfeajigaaGreatDoor
open Go.RowKit Go.Shelf
attribute [local go_sem] ak run_store_func Oper.semAt_some
def lJ (l:List Sg)(vs:List Int):Nat->Int
 | 0=>0
 | k+1=>lJ l vs k+vs.getD k 0*fB l k
def ZA (l:List Sg)(vs:List Int):Int:=lJ l vs l.length
def JL (l:List Sg)(vs:List Int):Bool:=decide (vs.length=l.length)&&pO l.length λ i=>decide (0<=vs.getD i 0)&&decide (vs.getD i 0<(l.getD i default).size)
theorem Df {l:List Sg}{vs:List Int}(h:JL l vs=true):vs.length=l.length/\∀i,i<l.length->0<=vs.getD i 0/\vs.getD i 0<(l.getD i default).size:=by
 unfold JL at h;rw[Bool.and_eq_true,decide_eq_true_eq,iZ]at h;exact⟨h.1,λ i hi=>by simpa using h.2 i hi⟩
theorem y7 {l:List Sg}{vs:List Int}(hv:dN l=true)(h:JL l vs=true):∀k,k<=l.length->0<=lJ l vs k/\lJ l vs k<=16384*k
 | 0,_=>by simp[lJ]
 | k+1,hk=>by
  have ih:=y7 hv h k (by omega);have hw:=sU hv (i:=k) (by omega);have h1:=(Df h).2 k (by omega);have h2:=pG ((gI hv).2.2.2 k (by omega));have h3:vs.getD k 0=0\/vs.getD k 0=1\/vs.getD k 0=2\/vs.getD k 0=3:=by omega
  rw[lJ]
  rcases h3 with e|e|e|e <;> rw[e] <;> omega
theorem N8 {D E:Dom}(l:List Sg)(vs:List Int)(A:Option Addr)(n c:Nat)(B:Option Addr)(m d:Nat)(w:World)(hn:n=l.length)(h:ng w D A c l)(hm:m=vs.length)(hi:jm w E B d vs)(hk:GK w)(hv:dN l=true)(hb:JL l vs=true) :
  Calls Tryz.prog 38 #[.slice A n c,.slice B m d] w λ e w'=>e = .returned (.tuple #[.int .i64 (ZA l vs),.bool true])/\Below w.heap.size w w':=by
 subst hn hm;have HL:=hid h.old;have HVI:=hid hi.old;have HK:=hid hk;have HV:=hid hv;have HB0:=hid hb;have hlen:=h.len.1;have hlen2:=hi.len.1;have hvl:=(Df hb).1;have e1:((vs.length:Int) !=(l.length:Int))=false:=by rw[hvl];simp
 have X8:=hid hvl;clear h hi hk hv hb hvl;refine(callsIn_wide (n:=3)).1 (callsIn_of_wp_marks Tryz.func38 rfl trivial ?_ rfl);simp only[Tryz.ntmps38,List.size_toArray,List.length_cons,List.length_nil,Nat.reduceAdd,Nat.reduceSub,Array.replicate_succ,Array.replicate_zero,List.push_toArray,List.append_toArray,List.nil_append,List.cons_append];refine wpIn_wide.2 ?_;go_upto_region 1 with(fail)
 refine aC λ W hW=>?_;have HB:=hid (show Below w.heap.size w W by rw[hW];go_grown);have mW:=hid (show W.heap[w.heap.size]?=some (.cells #[.slice A l.length c] 34 (0,0))by rw[hW,aQ _ _ _ (by first|(simp;done)|(simp;omega)),aQ _ _ _ (by first|(simp;done)|(simp;omega)),aQ _ _ _ (by simp)];exact at_new _ _ _ rfl);have kG:=hid (show W.heap[w.heap.size+1]?=some (.cells #[.slice B vs.length d] 35 (0,0))by rw[hW,aQ _ _ _ (by first|(simp;done)|(simp;omega)),aQ _ _ _ (by simp)];exact at_new _ _ _ (by simp));have HE2:=hid (show W.heap[w.heap.size+2]?=some (.cells #[.int .i64 0] 3 (0,0))by rw[hW,aQ _ _ _ (by simp)];exact at_new _ _ _ (by simp))
 have Iq:=hid (show W.heap[w.heap.size+3]?=some (.cells #[.bool false] 4 (0,0))by rw[hW];exact at_new _ _ _ (by simp));have HS:=hid (show W.heap.size=w.heap.size+4 by rw[hW];simp);clear hW
 have aI:Hid (∀W':World,Below W.heap.size W W'->W'.cell? ⟨w.heap.size,0,none⟩=some (.slice A l.length c)/\W'.cell? ⟨w.heap.size+1,0,none⟩=some (.slice B vs.length d)):=hid λ W' hb =>
  ⟨aj ((hb.block _ (lt_of_block mW.out)).trans mW.out) (i:=0) rfl,aj ((hb.block _ (lt_of_block kG.out)).trans kG.out) (i:=0) rfl⟩
 have BK:=hid (vK l A c l.length W rfl (HL.out.any HB.out) (HK.out.below HB.out HK.out.pos));rw[HV.out]at BK;obtain⟨s0,s1⟩:=aI.out W (Below.refl _ _);go_upto_region 4 with(go_at_call 84;(with_reducible refine BK.out.mono ?_);rintro e V ⟨rfl,ku⟩;have iD:=hid ku;clear s0 s1;obtain⟨s0,s1⟩:=aI.out _ iD.out;clear ku)
 refine aC λ V2 hV2=>?_;have hb2:Below V.heap.size V V2:=by rw[hV2];go_grown
 have HB2:=hid (au iD.out hb2);have Xk:=hid (show V2.heap[V.heap.size]?=some (.cells #[.int .i64 0] 3 (0,0))by rw[hV2];first|exact at_new _ _ _ rfl|(rw[aB (at_new _ _ _ rfl)];rfl));have zi:=hid (show w.heap.size+4<=V.heap.size by have:=iD.out.size;have:=HS.out;omega);obtain⟨nb,hnb⟩:∃nb,nb=V.heap.size:=⟨_,rfl⟩;rw[<-hnb]at Xk zi⊢;clear hV2 hb2 hnb iD BK s0 s1;obtain⟨s0,s1⟩:=aI.out V2 HB2.out;have s3:=lt_of_block ((HB2.out.block _ (lt_of_block mW.out)).trans mW.out);go_wp2_with (go_at_call 85;refine(xI A l.length c V2).mono ?_;rintro e w2 ⟨rfl,rfl⟩)
 refine aC λ W2 hW2=>?_;have hb2:Below V2.heap.size V2 W2:=by rw[hW2];go_grown
 have HP:=hid (show W2.cell? ⟨V2.heap.size,0,none⟩=some (.slice A l.length c)by rw[hW2];exact aj (at_new _ _ _ rfl) (i:=0) rfl);have HS2:=hid (show W2.heap.size=V2.heap.size+1 by rw[hW2];simp);have uN:=hid (au HB2.out hb2);have aT:=hid (au HB.out uN.out);have HF2:=hid ((uN.out.block _ (lt_of_block HE2.out)).trans HE2.out);have HF3:=hid ((uN.out.block _ (lt_of_block Iq.out)).trans Iq.out);have HFN:=hid ((hb2.block _ (lt_of_block Xk.out)).trans Xk.out);have lW:=hid (show w.heap.size+4<=nb/\nb<V2.heap.size from⟨zi.out,lt_of_block Xk.out⟩);have TI:=hid ((HL.out.keep (Keeps.of_below aT.out λ _ h=>h)).mono (E := λ x=>x<w.heap.size\/x=V2.heap.size) λ k hk hl => .inl hk)
 have HIW:=hid ((HVI.out.keep (Keeps.of_below aT.out λ _ h=>h)).mono (E := λ x=>x<w.heap.size\/x=V2.heap.size) λ k hk hl => .inl hk);have HCW:=hid (aI.out _ uN.out);clear hW2 hb2 s0 s1 s3;have Hy:=hid (sV A c V2.heap.size (λ x=>x<w.heap.size\/x=V2.heap.size) W2 HV.out TI.out HP.out (.inr rfl) (λ x hx=>by have:=HS2.out;have:=lW.out;omega))
 refine CW 123 #[.pointer (some ⟨V2.heap.size,0,none⟩)] l.length 0 (λ x=>x<w.heap.size\/x=V2.heap.size) (UD l) (λ x=>x=nb)
  (λ k W'=>W'.heap[nb]?=some (.cells #[.int .i64 (lJ l vs k)] 3 (0,0)))
  (λ _ _=>False)
  (enters_of Tryz.func123 (by kernel_rfl) rfl) rfl rfl Hy.out (λ x hx=>by have:=HS2.out;have:=lW.out;omega) (λ _ _ _ _ _ h _=>h) ?hZ ?hI (λ _ _ _ h _=>h) HFN.out ?a1 ?hassign ?dY ?hdone (λ _ _ _ h _=>h.elim) (λ h=>by cases h)
 case hassign =>
  intro l u v W K hK
  gi_wp2
  exact hK
 case hZ=>intro x hx;have:=HS2.out;have:=lW.out;exact⟨by omega,by omega⟩
 case hI=>intro k W3 W4 h hc;exact hc.box h (by have:=HS2.out;have:=lW.out;omega)
 case dY =>
  rintro ln k W3 u v hs3 hc3 Xp hkl ⟨rfl,rfl⟩;have HKL:=hid hkl;have HI3:=hid Xp;obtain⟨t0,t1⟩:=HCW.out;have AQ:∀(b:Nat) (v:Value),b≠nb->W2.cell? ⟨b,0,none⟩=some v->W3.cell? ⟨b,0,none⟩=some v := λ b v hb hv=>(World.cell?_of_block (w:=W2) (a:=⟨b,0,none⟩) (hc3.block b (World.block_lt_of_cell? _ _ hv) hb)).trans hv;have q0:=AQ _ _ (by have:=lW.out;omega) t0;have q1:=AQ _ _ (by have:=lW.out;omega) t1;have ql:=World.block_lt_of_cell? _ _ q0;have ql1:=World.block_lt_of_cell? _ _ q1;have hk0:(0:Int)<=(k:Int):=by omega
  have hkk:(k:Int)<(l.length:Int):=by omega
  have hkv:(k:Int)<(vs.length:Int):=by have:=X8.out;omega
  obtain⟨b,o,s,rfl,hlb,HSX,x0,x1,x2⟩:=(TI.out.keep (hc3.keeps λ x _ h e=>by have:=lW.out;omega)).get hkl;obtain⟨b',o',y,rfl,_,VH,HY,y0⟩:=(HIW.out.keep (hc3.keeps λ x _ h e=>by have:=lW.out;omega)).get (show k<vs.length by have:=X8.out;omega);have hyb:=(Df HB0.out).2 k hkl;rw[HSX.out,HY.out]at hyb;have e2:¬y<0:=by omega
  have e3:decide (y<0)=false:=decide_eq_false e2;have e4:¬s.size<=y:=by omega
  have e5:decide (s.size<=y)=false:=decide_eq_false e4;have hwb:=sU HV.out (Nat.le_of_lt hkl);have hmb:=y7 HV.out HB0.out k (Nat.le_of_lt hkl);have qgF:=pG ((gI HV.out).2.2.2 k hkl);rw[HSX.out]at qgF;have HMS:=hid (show lJ l vs (k+1)=lJ l vs k+y*fB l k by rw[lJ,HY.out]);have h6:=(gI HV.out).2.1;obtain⟨z,hz⟩:∃z,fB l k=z:=⟨_,rfl⟩;obtain⟨u,hu⟩:∃u,lJ l vs k=u:=⟨_,rfl⟩;rw[hz]at hwb HMS⊢;rw[hu]at hmb HMS HI3
  have hyz:0<=y*z/\y*z<=12288:=by
   have h3:y=0\/y=1\/y=2\/y=3:=by omega
   rcases h3 with rfl|rfl|rfl|rfl <;> omega
  have w1:IntKind.i64.wrap (y*z)=y*z:=IntWalk.i64_in _ (by omega);have w2:IntKind.i64.wrap (u+y*z)=u+y*z:=IntWalk.i64_in _ (by omega);have r0:=aj HI3.out (i:=0) rfl;have r1:=aA HI3.out (i:=0);have r2:=lt_of_block HI3.out;have HHC:=hid hc3;clear Xp hkl t0 t1 AQ HSX x0 x1 hc3 hz hu HY hmb hwb qgF h6 hyz e2 e4 hyb
  gi_upto_region 7 with(fail)
  refine Dj (by kernel_rfl) (by kernel_rfl) (λ h=>by obtain⟨_,_,h⟩:=h;exact h) (by kernel_rfl) ?_
  repeat (quiet_step (fail))
  refine wpQuiet_nil ?_;intro W4 hw';obtain⟨nq,rfl⟩:=hw'
  gi_upto_region 9 with(fail)
  refine pY (λ W'=>W'.cell? ⟨nb,0,none⟩=some (.int .i64 u)/\W'.cell? ⟨w.heap.size+1,0,none⟩=some (.slice (some ⟨b',o',none⟩) vs.length d)/\W'.cell? ⟨b',o'+k,none⟩=some (.int .i64 y)) (by kernel_rfl) (by kernel_rfl) (λ h=>by obtain⟨_,_,h⟩:=h;exact h) (by kernel_rfl) (by kernel_rfl) ⟨r0,q1,y0⟩ (λ hHeld=>?_);simp only[List.dropLast_cons_cons,List.dropLast_singleton,List.getLast_cons_cons,List.getLast_singleton];refine dS 0 ?_ rfl (by kernel_rfl) (λ _ _ _ h=>h) ?_ (by assumption) ?_
  rotate_left
  ·intro w hSw;(try dsimp only at hSw);go_simp;(try(with_reducible rfl))
  try simp only[Act.put,bn,bC,bD]
  refine dS 1 ?_ rfl (by kernel_rfl) (λ _ _ _ h=>h) ?_ (by assumption) ?_
  rotate_left
  ·intro w hSw;(try dsimp only at hSw);go_simp;(try(with_reducible rfl))
  try simp only[Act.put,bn,bC,bD]
  refine dS 2 ?_ rfl (by kernel_rfl) (λ _ _ _ h=>h) ?_ (by assumption) ?_
  rotate_left
  ·intro w hSw;(try dsimp only at hSw);go_simp;(try(with_reducible rfl))
  try simp only[Act.put,bn,bC,bD]
  refine dS 3 ?_ rfl (by kernel_rfl) (λ _ _ _ h=>h) ?_ (by assumption) ?_
  rotate_left
  ·intro w hSw;(try dsimp only at hSw);go_simp;(try(with_reducible rfl))
  try simp only[Act.put,bn,bC,bD]
  refine dS 4 ?_ rfl (by kernel_rfl) (λ _ _ _ h=>h) ?_ (by assumption) ?_
  rotate_left
  ·intro w hSw;(try dsimp only at hSw);go_simp;(try(with_reducible rfl))
  try simp only[Act.put,bn,bC,bD]
  refine dS 5 ?_ rfl (by kernel_rfl) (λ _ _ _ h=>h) ?_ (by assumption) ?_
  rotate_left
  ·intro w hSw;(try dsimp only at hSw);go_simp;(try(with_reducible rfl))
  try simp only[Act.put,bn,bC,bD]
  refine dS 6 ?_ rfl (by kernel_rfl) (λ _ _ _ h=>h) ?_ (by assumption) ?_
  rotate_left
  ·intro w hSw;(try dsimp only at hSw);go_simp;(try(with_reducible rfl))
  try simp only[Act.put,bn,bC,bD]
  refine dS 7 ?_ rfl (by kernel_rfl) (λ _ _ _ h=>h) ?_ (by assumption) ?_
  rotate_left
  ·intro w hSw;(try dsimp only at hSw);go_simp;(try(with_reducible rfl))
  try simp only[Act.put,bn,bC,bD]
  refine wpAnyH_done (by kernel_rfl) ?_ _;unfold kZ
  go_simp
  gi_wp2_with fail
  refine⟨?_,?_⟩
  ·have hc:=((aH.refl (λ x=>x=nb) W3).drewN nq).set ⟨nb,0,none⟩ (.int .i64 (u+y*z)) λ _=>rfl
   exact hc.drew
  ·show((W3.drewN nq).setCell ⟨nb,0,none⟩ (.int .i64 (u+y*z))).heap[nb]?=some (Obj.cells #[.int .i64 (lJ l vs (k+1))] 3 (0,0))
   have hn:(W3.drewN nq).heap[nb]?=_:=HI3.out;rw[aB hn,HMS.out];rfl
 case hdone =>
  rintro W3 hc h1 hD3;have r0:=aj h1 (i:=0) rfl;have e2:=hc.box HF2.out (show w.heap.size+2≠nb by have:=lW.out;omega);have e3:=hc.box HF3.out (show w.heap.size+3≠nb by have:=lW.out;omega);have p0:=aj e2 (i:=0) rfl;have p1:=aA e2 (i:=0);have p2:=lt_of_block e2;have p3:=aj e3 (i:=0) rfl;have p4:=aA e3 (i:=0);have p5:=lt_of_block e3;have E2:=hid e2;have E3:=hid e3;have Dk:=hid hc;have HD3:=hid hD3;clear e2 e3 hc
  dsimp only
  go_wp2_with fail
  have hbf:=(aT.out.trans (Dk.out.below (B:=w.heap.size) (λ x hx=>by have:=lW.out;omega) aT.out.size));obtain⟨W5,YP⟩:∃W5,W5=(W3.setCell ⟨w.heap.size+2,0,none⟩ (.int .i64 (lJ l vs l.length))).setCell ⟨w.heap.size+3,0,none⟩ (.bool true):=⟨_,rfl⟩;rw[<-YP]
  have hc5:aH (λ x=>x=w.heap.size+2\/x=w.heap.size+3) W3 W5:=by
   rw[YP];exact((aH.refl _ W3).set ⟨w.heap.size+2,0,none⟩ _ λ _ => .inl rfl).set ⟨w.heap.size+3,0,none⟩ _ λ _ => .inr rfl
  have g2:W5.heap[w.heap.size+2]?=some (.cells #[.int .i64 (lJ l vs l.length)] 3 (0,0)):=by
   rw[YP,Below.heap_setCell _ _ _ _ (by simp),aB E2.out];rfl
  have g3:W5.heap[w.heap.size+3]?=some (.cells #[.bool true] 4 (0,0)):=by
   rw[YP,aB (show(W3.setCell ⟨w.heap.size+2,0,none⟩ (.int .i64 (lJ l vs l.length))).heap[w.heap.size+3]?=some (.cells #[.bool false] 4 (0,0))by rw[Below.heap_setCell _ _ _ _ (by simp)];exact E3.out)];rfl
  have hD5:W5.heap[W2.heap.size]?=some (.deferred (some [])):=(hc5.block _ (lt_of_block HD3.out) (by have:=HS2.out;have:=lW.out;omega)).trans HD3.out;have hb5:=hbf.trans (hc5.below (B:=w.heap.size) (λ x hx=>by omega) hbf.size);clear YP;refine fZ rfl hD5 (v := .tuple #[.int .i64 (lJ l vs l.length),.bool true]) (λ w' hc'=>?_) (λ w' hc'=>⟨rfl,hb5.trans (hc'.below (λ x hx=>by have:=HS2.out;have:=lW.out;omega) hb5.size)⟩);have z2:=aj (hc'.box g2 (by have:=HS2.out;have:=lW.out;omega)) (i:=0) rfl;have z3:=aj (hc'.box g3 (by have:=HS2.out;have:=lW.out;omega)) (i:=0) rfl;simp[results,Tryz.results38,go_sem,z2,z3]
end Go.Proofs.YtdpbgcmfeajigaaGreatDoor
namespace Go.Proofs.YtdpbgcmfeajigaaGreatDoor
open Go.RowKit Go.Shelf
attribute [local go_sem] ak run_store_func Oper.semAt_some
structure Qz (w:World) (W:iV) (As:Option Addr) (cs:Nat) (Al:Option Addr) (cl:Nat) (rb ab t:Nat):Prop where
 r:gQ w rb W As cs Al cl
 a:w.heap[ab]?=some (.cells #[.int .i64 (t:Int)] 3 (0,0))
theorem jm.belowD {w w':World}{D:Dom}{A:Option Addr}{c:Nat}{zs:List Int}(h:jm w D A c zs)(hb:Below w.heap.size w w'):jm w' D A c zs :=
 ((h.mono (E := λ k=>D k/\k<w.heap.size) λ k hk hl=>⟨hk,hl⟩).keep (Keeps.of_below hb λ _ h=>h.2)).mono λ _ h _=>h.1
def atN (W:iV)(t:Nat):Nat:=if t+1=W.stem.length+W.loop.length then W.stem.length else t+1
theorem OE {D E:Dom}(W:iV)(As:Option Addr)(cs:Nat)(Al:Option Addr)(cl:Nat)(rb ab t:Nat)(w:World)(h:Qz w W As cs Al cl rb ab t)(hne:rb≠ab)(hs:jm w D As cs W.stem)(hl:jm w E Al cl W.loop)(ht:t<W.stem.length+W.loop.length)(hL:0<W.loop.length)(hn:W.stem.length+W.loop.length<=1000) :
  Calls Tryz.prog 222 #[.pointer (some ⟨rb,0,none⟩),.pointer (some ⟨ab,0,none⟩)] w λ e w'=>e = .returned (.int .i64 (aP W t))/\aH (λ b=>b=ab) w w'/\w'.heap[ab]?=some (.cells #[.int .i64 (atN W t:Int)] 3 (0,0)):=by
 have HR:=hid h;have HS:=hid hs.old;have HL:=hid hl.old;have HT:=hid (And.intro ht (And.intro hL (And.intro hn hne)));have hsl:=hs.len.1;have hll:=hl.len.1;obtain⟨s0,s1,s2⟩:=h.r.cells;have a0:=aj h.a (i:=0) rfl;have a1:=aA h.a (i:=0);have a2:=lt_of_block h.a;have hne1:¬rb=ab:=hne;have hne2:¬ab=rb := λ e=>hne e.symm;clear h hs hl ht hL hn hne;have HP:=hid (pick_any (D:=aW) W t (.agg #[.slice As W.stem.length cs,.slice Al W.loop.length cl]) w ⟨As,cs,Al,cl,rfl,HS.out.any (Below.refl _ _),HL.out.any (Below.refl _ _)⟩ (by have:=HT.out;omega) HT.out.2.1);obtain⟨y,hy⟩:∃y,aP W t=y:=⟨_,rfl⟩;rw[hy]at HP;have HY:=hid hy;clear hy
 have wr1:IntKind.i64.wrap ((t:Int)+1)=(t:Int)+1:=IntWalk.i64_in _ (by have:=HT.out;omega);have wr2:IntKind.i64.wrap ((W.stem.length:Int)+(W.loop.length:Int))=(W.stem.length:Int)+(W.loop.length:Int):=IntWalk.i64_in _ (by have:=HT.out;omega)
 by_cases he:t+1=W.stem.length+W.loop.length
 ·have d1:(((t:Int)+1)==((W.stem.length:Int)+(W.loop.length:Int)))=true:=beq_iff_eq.2 (by omega)
  have HE:=hid he;clear he
  go_enter Tryz.func222,Tryz.ntmps222
  go_wp2_with (go_at_call 63;(with_reducible refine HP.out.mono ?_);rintro e V ⟨rfl,hbv⟩;have iD:=hid hbv;have HA:=hid ((hbv.block _ a2).trans HR.out.a);clear s0 s1 s2 a0 a1 a2;obtain⟨s0,s1,s2⟩:=(HR.out.r.below hbv).cells;have a0:=aj HA.out (i:=0) rfl;have a1:=aA HA.out (i:=0);have a2:=lt_of_block HA.out;clear hbv)
  refine aK λ W9 yh=>?_
  have Hr:aH (λ b=>b=ab) w W9:=by
   rw[yh]
   first
    | exact aH.set (V := λ b=>b=ab) (aH.aS iD.out) ⟨ab,0,none⟩ _ λ _=>rfl
    | exact aH.set (V := λ b=>b=ab) (aH.set (V := λ b=>b=ab) (aH.aS iD.out) ⟨ab,0,none⟩ _ λ _=>rfl) ⟨ab,0,none⟩ _ λ _=>rfl
  have hh9:W9.heap[ab]?=some (.cells #[.int .i64 (W.stem.length:Int)] 3 (0,0)):=by
   rw[yh]
   first
    | (rw[aB HA.out];rfl)
    | (rw[aB (aB HA.out _)];rfl)
  clear yh;go_ret
  exact⟨dD HY.out.symm,Hr,by rw[show atN W t=W.stem.length by unfold atN;rw[if_pos HE.out]];exact hh9⟩
 ·have d1:(((t:Int)+1)==((W.stem.length:Int)+(W.loop.length:Int)))=false:=ay (by omega)
  have HE:=hid he;clear he
  go_enter Tryz.func222,Tryz.ntmps222
  go_wp2_with (go_at_call 63;(with_reducible refine HP.out.mono ?_);rintro e V ⟨rfl,hbv⟩;have iD:=hid hbv;have HA:=hid ((hbv.block _ a2).trans HR.out.a);clear s0 s1 s2 a0 a1 a2;obtain⟨s0,s1,s2⟩:=(HR.out.r.below hbv).cells;have a0:=aj HA.out (i:=0) rfl;have a1:=aA HA.out (i:=0);have a2:=lt_of_block HA.out;clear hbv)
  refine aK λ W9 yh=>?_
  have Hr:aH (λ b=>b=ab) w W9:=by
   rw[yh];exact(aH.aS iD.out).set ⟨ab,0,none⟩ _ λ _=>rfl
  have hh9:W9.heap[ab]?=some (.cells #[.int .i64 ((t+1:Nat):Int)] 3 (0,0)):=by
   rw[yh,aB HA.out];simp
  clear yh;go_ret
  exact⟨dD HY.out.symm,Hr,by rw[show atN W t=t+1 by unfold atN;rw[if_neg HE.out]];exact hh9⟩
end Go.Proofs.YtdpbgcmfeajigaaGreatDoor
namespace Go.Proofs.YtdpbgcmfeajigaaGreatDoor
open Go.RowKit Go.Shelf
attribute [local go_sem] ak run_store_func Oper.semAt_some
theorem SL (As:Option Addr)(n cs:Nat)(Al:Option Addr)(m cl:Nat)(w:World) :
  Calls Tryz.prog 213 #[.agg #[.slice As n cs,.slice Al m cl]] w λ e w'=>e = .returned (.func (.func 222) #[] #[.pointer (some ⟨w.heap.size,0,none⟩),.pointer (some ⟨w.heap.size+1,0,none⟩)])/\w'=(w.alloc (.cells #[.slice As n cs,.slice Al m cl] 37)).alloc (.cells #[.int .i64 0] 3):=by
 have hmf:∀(fn:Fn) (first cap:Array Value) (w:World),(Instr.makeFunc fn first cap).run Tryz.prog w = .ok (.func fn first cap) w := λ _ _ _ _=>rfl
 go_enter Tryz.func213,Tryz.ntmps213
 go_wp2_with fail
 go_ret
 exact⟨rfl,rfl⟩
theorem LP (As:Option Addr)(n cs:Nat)(Al:Option Addr)(m cl:Nat)(w:World) :
  Calls Tryz.prog 160 #[.agg #[.slice As n cs,.slice Al m cl]] w λ e w'=>e = .returned (.func (.func 212) #[] #[.pointer (some ⟨w.heap.size,0,none⟩)])/\w'=w.alloc (.cells #[.slice As n cs,.slice Al m cl] 37):=by
 have hmf:∀(fn:Fn) (first cap:Array Value) (w:World),(Instr.makeFunc fn first cap).run Tryz.prog w = .ok (.func fn first cap) w := λ _ _ _ _=>rfl
 go_enter Tryz.func160,Tryz.ntmps160
 go_wp2_with fail
 go_ret
 exact⟨rfl,rfl⟩
def Yo (w:World)(b:Nat):Nat:=match w.cell? ⟨b,0,none⟩with
 | some v=>(intOf v).toNat
 | none=>0
theorem Np {w:World}{b t:Nat}{ty:TypeId}(h:w.heap[b]?=some (.cells #[.int .i64 (t:Int)] ty (0,0))):Yo w b=t:=by
 unfold Yo;rw[aj h (i:=0) rfl];simp[intOf]
def qcH (W:iV)(k:Nat)(_:World)(u:Value):Prop:=u = .int .i64 (aP W k)
theorem Ia {W:iV}(As:Option Addr)(cs:Nat)(Al:Option Addr)(cl pb:Nat)(M:Dom)(w:World)(hp:gQ w pb W As cs Al cl)(hpb:M pb)(hs:jm w M As cs W.stem)(hl:jm w M Al cl W.loop)(hM:∀b,M b->b<w.heap.size)(hL:0<W.loop.length)(hn:W.stem.length+W.loop.length<=1000) :
  wM true 212 #[.pointer (some ⟨pb,0,none⟩)] (W.stem.length+W.loop.length) (Zg (qcH W)) M 2 w:=by
 intro ln Z J X W1 B1 hW1 hb1 hR hj hfin;subst hW1;have HR:=hid hR;have HJ:=hid hj;have qc8:=hid (hfin rfl);have HLEN:=hid (And.intro hL hn);have HS:=hid (hs.keep (Keeps.of_below hb1 hM));have HL:=hid (hl.keep (Keeps.of_below hb1 hM));have HP:=hid (show gQ W1 pb W As cs Al cl from hp.below hb1);have hsl:=hs.len.1;have hll:=hl.len.1;have Ir:Hid (∀b,M b->¬Z b):=hid λ b h hz=>(hR.z _ hz).1 h;have HPB:=hid hpb;have HMB:=hid (λ b (hb:M b)=>(Nat.lt_of_lt_of_le (hM b hb) hb1.size:b<W1.heap.size));have iL:=hid (λ b (h:W1.heap.size<=b/\b<W1.heap.size+2) (hz:Z b)=>(show False by have:=(hR.z _ hz).2;omega));obtain⟨p0,p1,p2⟩:=HP.out.cells;clear hR hj hl hs hp hb1 hpb hfin hM hL hn
 simp only[List.append_toArray,List.cons_append,List.nil_append]
 go_enter Tryz.func212,Tryz.ntmps212
 go_upto_region 1 with(go_at_call 213;(with_reducible refine(SL As W.stem.length cs Al W.loop.length cl W1).mono ?_);rintro e V ⟨rfl,rfl⟩)
 refine aC λ V hV=>?_;have ku:Below W1.heap.size W1 V:=by rw[hV];go_grown
 have iD:=hid ku
 have HRA:=hid (show Qz V W As cs Al cl W1.heap.size (W1.heap.size+1) 0 by
  refine⟨?_,?_⟩
  ·show V.heap[_]?=_
   rw[hV,aQ _ _ _ (by simp)];exact at_new _ _ _ rfl
  ·rw[hV];exact at_new _ _ _ (by simp))
 have zi:=hid (show V.heap.size=W1.heap.size+2 by rw[hV];simp);have HJV:=hid (HR.out.keep _ _ _ HJ.out (aH.aS ku));clear hV ku p0 p1 p2 HJ
 go_loopw [8] (λ _ wr=>∃k:Nat,k<W.stem.length+W.loop.length/\Hid (aH Z W1 wr)/\Hid (J k wr)/\Hid (Qz wr W As cs Al cl W1.heap.size (W1.heap.size+1) k)/\Hid (W1.heap.size+2<=wr.heap.size)) (λ _ wr=>W.stem.length+W.loop.length-Yo wr (W1.heap.size+1))
 case atStart=>exact⟨0,by have:=HLEN.out.1;omega,aH.aS iD.out,HJV.out,HRA.out,Nat.le_of_eq zi.out.symm⟩
 case round =>
  obtain⟨k,hk,HC,HJK,XY,HSK⟩:=hrel;have HK:=hid hk;have HNX:=hid (OE (D:=M) (E:=M) W As cs Al cl W1.heap.size (W1.heap.size+1) k wr XY.out (by omega) (HS.out.keep (HC.out.keeps λ b _ h=>Ir.out b h)) (HL.out.keep (HC.out.keeps λ b _ h=>Ir.out b h)) hk HLEN.out.1 HLEN.out.2);have HCN:=hid (Np XY.out.a);clear hk;refine(wpIn_wide (n:=1)).1 ?_
  gi_wp2
  refine⟨trivial,(callsIn_wide.2 HNX.out).mono ?_⟩;rintro e w3 ⟨rfl,hc3,wJ⟩;have Dk:=hid hc3;have pJ:=hid wJ;have HJ3:=hid (HR.out.keep _ _ _ HJK.out (hc3.mono λ b _ hb=>by have hb:b=W1.heap.size+1:=hb;omega));have HS3:=hid (Nat.le_trans HSK.out hc3.size);obtain⟨yf,yt,ya,yb',Ro,Uh⟩:=HR.out.step k w3 #[.int .i64 (aP W k)] HS3.out HJ3.out HK.out ⟨_,rfl,rfl⟩;have HR4:=hid Uh;clear hc3 wJ Uh
  gi_wp2
  refine HR4.out.mono ?_;rintro e w4 ⟨hc4,(⟨rfl,Ug⟩|⟨rfl,YQ⟩)⟩
  ·have YV:aH Z W1 w4:=(HC.out.trans' Dk.out λ b hb h=>by have h:b=W1.heap.size+1:=h;omega).trans hc4
   have ha4:=hc4.box pJ.out (iL.out _ (by omega));have hr3:gQ w3 W1.heap.size W As cs Al cl:=Dk.out.box XY.out.r (by omega);have hr4:gQ w4 W1.heap.size W As cs Al cl:=hc4.box hr3 (iL.out _ (by omega));have qcV:=hid YV;have HA4:=hid ha4;have HRR4:=hid hr4;have HJ4:=hid Ug;have Xl:=hid (Nat.le_trans HS3.out hc4.size);clear YV ha4 hr3 hr4 Ug Ro
   have hkn:k+1<W.stem.length+W.loop.length:=by
    have h1:=HK.out;have h2:¬k+1=W.stem.length+W.loop.length := λ h=>qc8.out w4 (by rw[<-h];exact HJ4.out);omega
   have HKN:=hid hkn;have HAN:=hid (show atN W k=k+1 by unfold atN;rw[if_neg (by omega)]);clear hkn
   gi_wp2
   go_wp2_with fail
   go_roundw
   case rel =>
    refine⟨k+1,HKN.out,qcV.out,HJ4.out,⟨HRR4.out,?_⟩,Xl.out⟩;have:=HA4.out;rw[HAN.out]at this;exact this
   case measure =>
    have h1:=HA4.out;rw[HAN.out]at h1;rw[Np h1,HCN.out];have:=HK.out;omega
  ·have YV:aH Z W1 w4:=(HC.out.trans' Dk.out λ b hb h=>by have h:b=W1.heap.size+1:=h;omega).trans hc4
   have qcV:=hid YV;have HX4:=hid YQ;clear hc4 YQ Ro YV
   gi_wp2
   go_wp2_with fail
   go_end0
   exact⟨⟨_,rfl⟩,qcV.out,.inr HX4.out⟩
end Go.Proofs.YtdpbgcmfeajigaaGreatDoor
namespace Go.Proofs.YtdpbgcmfeajigaaGreatDoor
open Go.RowKit Go.Shelf
attribute [local go_sem] ak run_store_func Oper.semAt_some
theorem Eu {P:Program}{id l n:Nat}{Q:Exit->Act->World->Prop}{a:Act}{w:World}{L:List Oper}(hd:rX L.toArray=true)(hQ:¬LetsOut Q)(h:wpList P L.toArray Q L a w) :
  (Code.region id L.toArray false).wpIn (Fence.wide.inRound l) n P Q a w:=by
 refine wpIn_region (lT hd hQ _ _ _ ?_);have:=wpOps_eq_wpList (P:=P) (ops:=L.toArray) (Q:=Q) L 0 (λ j=>by simp);rw[List.range_eq_range',List.size_toArray,this];exact h
def jv (W:iV)(k:Nat):List Int:=(List.range k).map (aP W)
theorem Ib (W:iV)(k:Nat):jv W (k+1)=jv W k ++ [aP W k]:=by unfold jv;rw[List.range_succ,List.map_append];rfl
theorem nH (W:iV)(k:Nat):(jv W k).length=k:=by unfold jv;simp
theorem NZ {W:iV}{k i:Nat}(h:i<k):(jv W k).getD i 0=aP W i:=by unfold jv;simp[List.getD,h]
theorem lZ {W:iV}(h:dF W=true):W.stem.length<=60/\1<=W.loop.length/\W.loop.length<=40:=by
 unfold dF at h;simp only[Bool.and_eq_true,decide_eq_true_eq]at h;exact⟨h.1.1.1.1,h.1.1.1.2,h.1.1.2⟩
theorem qR:(Tryz.prog.info? 3).map (λ i=>(i.zero,i.size,i.bytes))=some (some (.int .i64 0),1,8):=by kernel_rfl
theorem kX {V:Dom}{w w':World}{base n size:Nat}{e:TypeId}{v:Value}{xs:List Value}(h:w.ownsRow base e size v n xs)(hc:aH V w w')(hv:∀k,v.ownBlock=some k->¬V k):w'.ownsRow base e size v n xs:=by
 refine⟨h.1,?_⟩
 rcases h.2 with h0|⟨g,cap,cur,rfl,hb,hg,h1,h2,h3,h4⟩
 ·exact .inl h0
 ·exact .inr ⟨g,cap,cur,rfl,hb,(hc.block g (lt_of_block hg) (hv g rfl)).trans hg,h1,h2,h3,h4⟩
structure EX (w:World) (base S ob:Nat) (L:List Int):Prop where
 ex:∃A c,w.heap[ob]?=some (.cells #[.slice A L.length c] 35 (0,0))/\w.ownsRow base 3 1 (.slice A L.length c) L.length (L.map (.int .i64))/\∀g,(Value.slice A L.length c).ownBlock=some g->base<=g/\(g<ob\/S+4<=g)
def qdL (base S:Nat):Dom := λ b=>(base<=b/\b<base+2)\/S+4<=b
theorem EX.eu {w w':World}{base S ob:Nat}{L:List Int}(h:EX w base S ob L)(ho:ob<S)(hc:aH (λ b=>S<=b/\b<S+4) w w'):EX w' base S ob L:=by
 obtain⟨A,c,h1,h2,h3⟩:=h.ex;exact⟨A,c,hc.box h1 (by omega),kX h2 hc (λ g hg=>by have:=h3 g hg;omega),h3⟩
theorem EX.below {w w':World}{base S ob:Nat}{L:List Int}(h:EX w base S ob L)(hb:Below w.heap.size w w'):EX w' base S ob L:=by
 obtain⟨A,c,h1,h2,h3⟩:=h.ex;exact⟨A,c,(hb.block _ (lt_of_block h1)).trans h1,kX h2 (V := λ _=>False) (aH.aS hb) (λ _ _ h=>h),h3⟩
theorem SH {D:Dom}(W:iV)(n:Int)(v:Value)(w:World)(h:yT w D v W)(hf:dF W=true)(hn:n=((W.stem.length+W.loop.length:Nat):Int)) :
  Calls Tryz.prog 135 #[v,.int .i64 n] w λ e w'=>∃A c,e = .returned (.slice A (W.stem.length+W.loop.length) c)/\jm w' (λ b=>w.heap.size<=b) A c (jv W (W.stem.length+W.loop.length))/\Below w.heap.size w w':=by
 obtain⟨As,cs,Al,cl,rfl,hs,hl⟩:=h;have hsl:=hs.len.1;have hll:=hl.len.1;have HS:=hid hs.old;have HL:=hid hl.old;have HF:=hid hf;have zS:=hid (lZ hf);have d1:¬n<1:=by have:=zS.out;omega
 have e1:decide (n<1)=false:=decide_eq_false d1;have d2:¬500<n:=by have:=zS.out;omega
 have e2:decide (500<n)=false:=decide_eq_false d2;have HN:=hid hn;have hn0:(0:Int)<=n:=by omega
 clear hs hl hf hn;obtain⟨i0,hti,hz0,hz1,hz2⟩:=info_parts qR;have HTI:=hid hti;have HZ0:=hid hz0;have HZ1:=hid hz1;have HZ2:=hid hz2;clear hti hz0 hz1 hz2;have hmk := @run_make_full Tryz.prog;refine(callsIn_wide (n:=3)).1 (callsIn_of_wp_marks Tryz.func135 rfl trivial ?_ rfl);simp only[Tryz.ntmps135,List.size_toArray,List.length_cons,List.length_nil,Nat.reduceAdd,Nat.reduceSub,Array.replicate_succ,Array.replicate_zero,List.push_toArray,List.append_toArray,List.nil_append,List.cons_append];refine wpIn_wide.2 ?_;go_upto_region 1 with(fail)
 refine aC λ U hU=>?_;have HB:=hid (show Below w.heap.size w U by rw[hU];go_grown);have mW:=hid (show gQ U w.heap.size W As cs Al cl by show U.heap[_]?=_;rw[hU,aQ _ _ _ (by simp)];exact at_new _ _ _ rfl);have kG:=hid (show U.heap[w.heap.size+1]?=some (.cells #[.int .i64 n] 3 (0,0))by rw[hU];exact at_new _ _ _ (by simp));have jI:=hid (show U.heap.size=w.heap.size+2 by rw[hU];simp);clear hU;have pK:=hid (show yT U aW (.agg #[.slice As W.stem.length cs,.slice Al W.loop.length cl]) W from⟨As,cs,Al,cl,rfl,HS.out.any HB.out,HL.out.any HB.out⟩);obtain⟨s0,s1,s2⟩:=mW.out.cells;have t0:=aj kG.out (i:=0) rfl;have t1:=lt_of_block kG.out
 go_upto_region 3 with(go_at_call 62;(with_reducible refine(wU (W:=W) true HF.out pK.out).mono ?_);rintro e V ⟨rfl,hbv⟩;have iD:=hid hbv;clear hbv s0 s1 s2 t0 t1;obtain⟨s0,s1,s2⟩:=(mW.out.below iD.out).cells;have t0:=aj ((iD.out.block _ (lt_of_block kG.out)).trans kG.out) (i:=0) rfl;have t1:=lt_of_block ((iD.out.block _ (lt_of_block kG.out)).trans kG.out))
 have hmk:∀W:World,(Instr.makeSlice 35 (.int .i64 0) (.int .i64 n)).run Tryz.prog W = .ok (.slice (some ⟨W.heap.size,0,none⟩) 0 n.toNat) (W.alloc (.cells (madeCells #[.int .i64 0] (n.toNat*1)) 3)) := λ W=>by
  have hr:=run_make (P:=Tryz.prog) W 35 3 i0 _ Tryz.underlying35 HTI.out HZ0.out .i64 .i64 0 n (by omega) hn0 (by rw[HZ2.out];omega) (by omega);rw[HZ1.out]at hr;exact hr
 go_upto_region 4 with(fail)
 refine aC λ V2 hV2=>?_;have hb2:Below V.heap.size V V2:=by rw[hV2];go_grown
 have Qw:=hid (show EX V2 V.heap.size (V.heap.size+3) (V.heap.size+1) []from⟨some ⟨V.heap.size,0,none⟩,n.toNat,by rw[hV2];exact at_new _ _ _ (by simp),by
  rw[hV2]
  refine⟨rfl,.inr ⟨V.heap.size,n.toNat,_,rfl,Nat.le_refl _,(aQ _ _ _ (by simp)).trans (at_new _ _ _ rfl),Nat.zero_le _,dJ (by omega),(size_madeCells _ _).trans (Nat.mul_one _).symm,by simp⟩⟩,λ g hg=>by simp[Value.ownBlock]at hg;omega⟩)
 have HS2:=hid (show V2.heap.size=V.heap.size+2 by rw[hV2];simp);have qay:=hid (au iD.out hb2);have zi:=hid (show w.heap.size+2<=V.heap.size by have:=iD.out.size;have:=jI.out;omega);clear hV2 hb2 hmk s0 s1 s2 t0 t1;obtain⟨s0,s1,s2⟩:=(mW.out.below qay.out).cells;have t0:=aj ((qay.out.block _ (lt_of_block kG.out)).trans kG.out) (i:=0) rfl;have t1:=lt_of_block ((qay.out.block _ (lt_of_block kG.out)).trans kG.out);go_wp2_with (go_at_call 160;refine(LP As W.stem.length cs Al W.loop.length cl V2).mono ?_;rintro e w2 ⟨rfl,rfl⟩)
 refine aC λ W2 hW2=>?_;have hb2:Below V2.heap.size V2 W2:=by rw[hW2];go_grown
 have HP:=hid (show gQ W2 (V.heap.size+2) W As cs Al cl by show W2.heap[_]?=_;rw[hW2];exact at_new _ _ _ HS2.out.symm);have BL:=hid (show W2.heap.size=V.heap.size+3 by rw[hW2];simp[HS2.out]);have uN:=hid (au qay.out hb2);have aT:=hid (au HB.out uN.out);have HPW:=hid (show EX W2 V.heap.size W2.heap.size (V.heap.size+1) []from by rw[BL.out];exact Qw.out.below hb2);have HRS:=hid ((HS.out.keep (Keeps.of_below aT.out λ _ h=>h)).mono (E := λ x=>x<w.heap.size\/x=V.heap.size+2) λ k hk hl => .inl hk);have qfH:=hid ((HL.out.keep (Keeps.of_below aT.out λ _ h=>h)).mono (E := λ x=>x<w.heap.size\/x=V.heap.size+2) λ k hk hl => .inl hk);have Qu:=hid ((uN.out.block _ (lt_of_block kG.out)).trans kG.out)
 obtain⟨base,hbase⟩:∃base,V.heap.size=base:=⟨_,rfl⟩;clear hW2 hb2 Qw s0 s1 s2 t0 t1;rw[HS2.out];rw[hbase]at HP BL HPW zi HRS qfH⊢;have Hg:=hid (Ia As cs Al cl (base+2) (λ x=>x<w.heap.size\/x=base+2) W2 HP.out (.inr rfl) HRS.out qfH.out (λ x hx=>by have:=BL.out;have:=zi.out;omega) (by have:=zS.out;omega) (by have:=zS.out;omega))
 refine range_one 212 #[.pointer (some ⟨base+2,0,none⟩)] (W.stem.length+W.loop.length) 2 (λ x=>x<w.heap.size\/x=base+2) (qcH W) (qdL base W2.heap.size)
  (λ k W'=>k<W.stem.length+W.loop.length/\EX W' base W2.heap.size (base+1) (jv W k))
  (λ c W'=>c = .exit 0/\EX W' base W2.heap.size (base+1) (jv W (W.stem.length+W.loop.length)))
  (enters_of Tryz.func212 (by kernel_rfl) rfl) rfl rfl Hg.out (λ x hx=>by have:=BL.out;have:=zi.out;omega) (λ _ _ _ _ h _=>h) ?hZ ?hI ?hIx ⟨by have:=zS.out;omega,HPW.out⟩ ?a1 ?hassign ?dY ?hdone ?hstop (λ _ W' h=>by have:=h.1;omega)
 case hassign =>
  intro l u W K hK
  gi_wp2
  exact hK
 case hZ=>intro x hx;have:=BL.out;have:=zi.out;rcases hx with h|h <;> exact⟨by omega,by omega⟩
 case hI=>rintro k W3 W4 ⟨h1,h2⟩ hc;exact⟨h1,h2.eu (by have:=BL.out;omega) (hc.mono λ b _ h=>h)⟩
 case hIx=>rintro c W3 W4 ⟨h1,h2⟩ hc;exact⟨h1,h2.eu (by have:=BL.out;omega) (hc.mono λ b _ h=>h)⟩
 case hdone=>rintro W3 hc ⟨h1,_⟩ _;omega
 case hstop =>
  rintro c W3 hc ⟨rfl,h2⟩ hdf;obtain⟨A,cc,p1,p2,p3⟩:=h2.ex;rw[nH]at p1 p2 p3;have u0:=aj p1 (i:=0) rfl;have u1:=lt_of_block p1;have HB3:=hid (hc.below (B:=w.heap.size) (λ b hb h=>by have:=BL.out;have:=zi.out;rcases h with h|h <;> omega) (by have:=aT.out.size;omega));have HP2:=hid p2;have HP3:=hid p3;clear p1 p2 p3 h2;have HDF:=hid hdf;clear hdf;have hl:=nH W (W.stem.length+W.loop.length);go_wp2_with fail
  refine fZ rfl HDF.out (v := .slice A (W.stem.length+W.loop.length) cc) (λ w' hc'=>?_) (λ w' hc'=>⟨A,cc,rfl,?_,(aT.out.trans HB3.out).trans (hc'.below (λ x hx=>by have:=BL.out;have:=zi.out;omega) (by have:=aT.out.size;have:=HB3.out.size;omega))⟩)
  ·simp[results,Tryz.results135,go_sem]
  ·have h3:=Rd.own (kX HP2.out hc' (λ g hg=>by have:=HP3.out g hg;have:=BL.out;omega)) (D := λ b=>w.heap.size<=b) (by have:=zS.out;omega) (λ g hg=>by have:=zi.out;omega)
   unfold jm;rw[hl];exact h3
 case dY =>
  rintro ln k W3 u hs3 hc3 ⟨hki,Xp⟩ hkl rfl;obtain⟨A,c,p1,p2,p3⟩:=Xp.ex;have UR:=hid p1;have HP2:=hid p2;have HP3:=hid p3;have HHC:=hid hc3;have HKI:=hid hki;have hkc:=nH W k;have J8:=hid (show qdL base W2.heap.size (base+1)from .inl ⟨by omega,by omega⟩);have HF3:=hid (hc3.box Qu.out (λ h=>by have:=BL.out;have:=zi.out;rcases h with h|h <;> omega));rw[hkc]at UR HP2 HP3;clear p1 p2 p3 Xp hki hkl hc3;have u0:=aj UR.out (i:=0) rfl;have u1:=aA UR.out (i:=0);have u2:=lt_of_block UR.out;have v0:=aj HF3.out (i:=0) rfl;have v1:=lt_of_block HF3.out
  gi_upto_region 6 with(fail)
  refine Eu (by kernel_rfl) (λ h=>by obtain⟨_,_,h⟩:=h;exact h) ?_
  go_wp2_with (at_builtin;refine iK _ rfl (.tmp 23) (.tmp 25) 35 rfl base 3 i0 _ 1 8 Tryz.underlying35 HTI.out HZ0.out HZ1.out HZ2.out rfl (by omega) (.slice A k c) k _ rfl (HP2.out.alloc _) _ (some ⟨W3.heap.size,0,none⟩) 1 1 _ rfl (Rd.cell1 (jS W3 _ _ _ _ _ rfl rfl)) (by simp[Value.oneCell']) (by have:=zS.out;have:=HKI.out;omega) (dJ (by have:=zS.out;have:=HKI.out;omega)) (by have:=BL.out;simp;omega) ?_;intro A' c' w6 hown6 Y0 YT;have XQ:=hid hown6;have HG6:=hid Y0;have qcQ:=hid YT;have Hf:=hid ((Y0.block _ (by simp;omega) (λ e=>by have:=HP3.out _ e.symm;have:=BL.out;omega)).trans ((aQ W3 _ _ u2).trans UR.out));have b0:=aA Hf.out (i:=0);have b1:=lt_of_block Hf.out;have b2:=aj Hf.out (i:=0) rfl;clear hown6 Y0 YT)
  refine qae λ W7 hW7=>?_;have hkk:jv W (k+1)=jv W k ++ [aP W k]:=Ib W k;have hl7:=nH W (k+1);have h67:W3.heap.size+1<=w6.heap.size:=by have:=HG6.out.size;simpa using this
  have hnew:∀g,(Value.slice A' (k+1) c').ownBlock=some g->base<=g/\(g<base+1\/W2.heap.size+4<=g):=by
   intro g hg
   rcases qcQ.out with h|h <;> rw[h]at hg
   ·exact HP3.out g hg
   ·simp only[World.size_alloc,Option.some.injEq]at hg
    have:=BL.out;exact⟨by omega,.inr (by omega)⟩
  have hb7:W7.heap[base+1]?=some (.cells #[.slice A' (k+1) c'] 35 (0,0)):=by
   rw[hW7,aB Hf.out];rfl
  have hset:aH (λ b=>b=base+1) w6 W7:=by rw[hW7];exact(aH.refl _ _).set _ _ (λ _=>rfl)
  have qfC:=hid (show EX W7 base W2.heap.size (base+1) (jv W (k+1))from⟨A',c',by rw[hl7];exact hb7,by
   rw[hl7,hkk,List.map_append]
   exact kX XQ.out hset (λ g hg=>by have:=hnew g hg;have:=BL.out;omega),by rw[hl7];exact hnew⟩)
  have TF:=hid (show aH (qdL base W2.heap.size) W3 W7 from by
   refine aH.trans (w':=w6) ?_ (hset.mono λ b _ h=>by rw[h];exact J8.out)
   exact((aH.refl _ W3).alloc _).grown HG6.out (λ g hg _=>by
    have:=HP3.out g hg
    rcases this.2 with h|h
    ·exact .inl ⟨this.1,by omega⟩
    ·exact .inr h))
  clear hW7 b0 b1 b2 u0 u1 u2;have u0:=aj hb7 (i:=0) rfl;have u1:=lt_of_block hb7;have hv0:=aj (TF.out.box HF3.out (λ h=>by have:=BL.out;have:=zi.out;rcases h with h|h <;> omega)) (i:=0) rfl;clear v0 hb7
  by_cases hlast:k+1=W.stem.length+W.loop.length
  ·have dk:(((k:Int)+1)==n)=true:=by rw[HN.out,<-hlast];simp
   gi_wp2
   exact⟨TF.out,rfl,by rw[<-hlast];exact qfC.out⟩
  ·have dk:(((k:Int)+1)==n)=false:=by rw[HN.out];simp;omega
   gi_wp2
   exact⟨TF.out,by have:=HKI.out;omega,qfC.out⟩
end Go.Proofs.YtdpbgcmfeajigaaGreatDoor
namespace Go.Proofs.YtdpbgcmfeajigaaGreatDoor
open Go.RowKit Go.Shelf
attribute [local go_sem] ak run_store_func Oper.semAt_some
def RdB (w:World)(D:Dom)(A:Option Addr)(c:Nat)(bs:List Bool):Prop:=Rd w D 1 A bs.length c (bs.map .bool)
theorem RdB.keep {w w':World}{D:Dom}{A:Option Addr}{c:Nat}{bs:List Bool}(h:RdB w D A c bs)(hk:Keeps D w w'):RdB w' D A c bs:=Rd.keep h hk
theorem RdB.mono {w:World}{D E:Dom}{A:Option Addr}{c:Nat}{bs:List Bool}(h:RdB w D A c bs)(hE:∀b,D b->b<w.heap.size->E b):RdB w E A c bs:=Rd.mono h hE
theorem RdB.old {w:World}{D:Dom}{A:Option Addr}{c:Nat}{bs:List Bool}(h:RdB w D A c bs):RdB w (· < w.heap.size) A c bs:=h.mono λ _ _ h=>h
def Ql (w:World)(ax:Nat)(yP:Option Addr)(nsg yX:Nat)(Av:Option Addr)(nv cv:Nat)(s b n:Nat):Prop :=
 w.heap[ax]?=some (.cells #[.slice yP nsg yX,.slice Av nv cv,.int .i64 (s:Int),.int .i64 (b:Int),.int .i64 (n:Int)] 137 (0,0))
theorem Vb:(Tryz.prog.info? 4).map (λ i=>(i.zero,i.size,i.bytes))=some (some (.bool false),1,1):=by kernel_rfl
theorem Gy (n:Nat)(hn:n<=1000000)(w:World):(Instr.makeSlice 97 (.int .i64 (n:Int)) (.int .i64 (n:Int))).run Tryz.prog w = .ok (.slice (some ⟨w.heap.size,0,none⟩) n n) (w.alloc (He (.bool false) n 4)):=by
 obtain⟨i0,hti,hz0,hz1,hz2⟩:=info_parts Vb;exact oN _ _ i0 _ 1 Tryz.underlying97 hti hz0 hz1 hz2 rfl .i64 .i64 n (by omega) (by omega) w
def preB (n:Nat)(u:Nat->Bool)(k:Nat):List Bool:=(List.range n).map λ j=>decide (j<k)&&u j
theorem WA (n:Nat)(u:Nat->Bool):preB n u 0=List.replicate n false:=by
 unfold preB;apply List.ext_getElem?;intro j
 by_cases h:j<n <;> simp[h,List.getElem?_replicate]
theorem OD (n:Nat)(u:Nat->Bool)(k:Nat):(preB n u k).length=n:=by unfold preB;simp
theorem Wy (n:Nat)(u:Nat->Bool):preB n u n=kK n u:=by
 unfold preB kK;apply List.map_congr_left;intro j hj;have:=List.mem_range.1 hj;simp[this]
theorem ZK (n:Nat)(u:Nat->Bool)(k:Nat):(preB n u k).set k (u k)=preB n u (k+1):=by
 apply List.ext_getElem?;intro j;rw[List.getElem?_set,OD]
 by_cases h:k=j
 ·subst h
  by_cases hk:k<n
  ·simp[preB,hk]
  ·simp[preB,hk]
 ·rw[if_neg h]
  by_cases hj:j<n
  ·have:(j<k+1)=(j<k):=by apply propext;omega
   simp[preB,hj,this]
  ·simp[preB,hj]
theorem qai (n:Nat):He (.bool false) n 4 = .cells ((List.replicate n false).map Value.bool).toArray 4 (0,0):=by
 unfold He;simp
def gU (w:World)(b:Nat)(bs:List Bool):Prop:=w.heap[b]?=some (.cells (bs.map Value.bool).toArray 4 (0,0))
theorem zK {w:World}{D:Dom}{b n size:Nat}{cs:Array Value}{t:TypeId}{fr:Nat×Nat}(h:w.heap[b]?=some (.cells cs t fr))(hD:D b)(hs:cs.size=n*size)(hn:n<=140737488355328):Rd w D size (some ⟨b,0,none⟩) n n cs.toList :=
 ⟨⟨by simpa using hs,hn,Nat.le_refl _,by omega⟩,λ _=>⟨b,0,rfl,hD,lt_of_block h,λ j u hu=>by rw[Nat.zero_add];exact aj h (by simpa using hu)⟩⟩
theorem gU.rd {w:World}{b:Nat}{bs:List Bool}(h:gU w b bs)(hn:bs.length<=1000000){D:Dom}(hD:D b):RdB w D (some ⟨b,0,none⟩) bs.length bs :=
 zK h hD (by simp) (by omega)
theorem lg (n:Nat)(u:Nat->Bool):(kK n u).length=n:=by unfold kK;simp
def QA (gf:Nat)(caps:Array Value)(n:Nat)(u:Nat->Bool)(Z:Dom)(I:Nat->World->Prop)(w:World):Prop :=
 ∀k W,k<n->aH Z w W->I k W->Calls Tryz.prog gf (#[.int .i64 (k:Int)]++caps) W λ e W'=>e = .returned (.bool (u k))/\aH Z W W'/\I (k+1) W'
theorem FB (ax gf n:Nat)(caps:Array Value)(u:Nat->Bool)(Z:Dom)(I:Nat->World->Prop)(w:World)(hn:n<=1000000)(hZ:∀b,Z b->b<w.heap.size)(hax:¬Z ax)(ha:w.cell? ⟨ax,4,none⟩=some (.int .i64 (n:Int)))
  (eg:∀args w,(callFunc gf args).run Tryz.prog w = .ok (.enter gf args) w)
  (h0:I 0 w) (hI:∀k W W',I k W->aH (λ b=>b=w.heap.size) W W'->I k W') (hs:QA gf caps n u Z I w) :
  Calls Tryz.prog 162 #[.pointer (some ⟨ax,0,none⟩),.func (.func gf) #[] caps] w λ e w'=>e = .returned (.slice (some ⟨w.heap.size,0,none⟩) n n)/\gU w' w.heap.size (kK n u)/\aH Z w w'/\I n w':=by
 have hmk:=Gy n hn;have HZ:=hid hZ;have Pv:=hid hax;have HA:=hid ha;have H0:=hid h0;have HI:=hid hI;have HS:=hid hs;have hal:=World.block_lt_of_cell? _ _ ha;have hal':ax<w.heap.size:=hal;clear hZ hax h0 hI hs hal
 go_enter Tryz.func162,Tryz.ntmps162
 go_upto_region 2 with(fail)
 refine aC λ W hW=>?_;have HC:=hid (show aH Z w W by rw[hW];exact(aH.refl _ _).alloc _);have HR:=hid (show gU W w.heap.size (preB n u 0)by unfold gU;rw[hW,WA,<-qai];exact at_new _ _ _ rfl);have HIW:=hid (show I 0 W by rw[hW];exact HI.out _ _ _ H0.out ((aH.refl _ _).alloc _));clear hW hmk;go_wp2_with fail
 go_loopw [14] (λ r wr=>∃k:Nat,k<=n/\r = .int .i64 (k:Int)/\gU wr w.heap.size (preB n u k)/\I k wr/\aH Z w wr) (λ r _=>n-(intOf r).toNat)
 case atStart=>exact⟨0,Nat.zero_le _,rfl,HR.out,HIW.out,HC.out⟩
 case round =>
  obtain⟨k,hk,rfl,hr,hi,hc⟩:=hrel;have HRR:=hid hr;have HII:=hid hi;have Py:=hid hc;clear hr hi hc
  by_cases hlt:k<n
  ·have hii:(k:Int)<n:=by omega
   have aX:=hid (HS.out k wr hlt Py.out HII.out);have hnz:¬Z w.heap.size := λ h=>Nat.lt_irrefl _ (HZ.out _ h);go_wp2_with (refine aX.out.mono ?_;rintro e w2 ⟨rfl,hc2,hi2⟩;have HC2:=hid hc2;have HI2:=hid hi2;have HR2:=hid (hc2.box HRR.out hnz);have v1:=aA HR2.out (i:=k);have v2:=lt_of_block HR2.out;have v3:=aj HR2.out (i:=k) (u := .bool ((preB n u k).getD k false)) (by simp[List.getD,OD,hlt]);clear hc2 hi2)
   go_roundw
   case rel =>
    refine⟨k+1,by omega,by go_num,?_,HI.out _ _ _ HI2.out ((aH.refl _ _).set _ _ λ _=>rfl),(Py.out.trans HC2.out).set _ _ λ h=>absurd h (Nat.lt_irrefl _)⟩;unfold gU;rw[aB HR2.out,<-ZK];simp[List.map_set]
   case measure=>simp[intOf];omega
  ·have hii:¬(k:Int)<n:=by omega
   have hkn:k=n:=by omega
   subst hkn;go_wp2_with fail
   go_ret
   exact⟨rfl,by rw[<-Wy];exact HRR.out,Py.out,HII.out⟩
end Go.Proofs.YtdpbgcmfeajigaaGreatDoor
namespace Go.Proofs.YtdpbgcmfeajigaaGreatDoor
open Go.RowKit Go.Shelf
attribute [local go_sem] ak run_store_func Oper.semAt_some
theorem RdB.get {w:World}{D:Dom}{A:Option Addr}{c k:Nat}{bs:List Bool}(h:RdB w D A c bs)(hk:k<bs.length):∃b o x,A=some ⟨b,o,none⟩/\D b/\b<w.heap.size/\Hid (bs.getD k false=x)/\w.cell? ⟨b,o+k,none⟩=some (.bool x):=by
 obtain⟨b,o,e,hb,hl,hc⟩:=h.2 (by omega);exact⟨b,o,_,e,hb,hl,hid rfl,hc k _ (by simp[hk])⟩
theorem RdB.len {w:World}{D:Dom}{A:Option Addr}{c:Nat}{bs:List Bool}(h:RdB w D A c bs):bs.length<=140737488355328/\bs.length<=c/\c<=9223372036854775807:=h.1.2
def oQ (w:World)(D:Dom)(A:Option Addr)(c:Nat)(rows:List (List Bool)):Prop :=
 ∃vs:List Value,Rd w D 1 A rows.length c vs/\∀i,i<rows.length->∃A' c',vs[i]?=some (.slice A' (rows.getD i []).length c')/\RdB w D A' c' (rows.getD i [])
section
variable {D E:Dom}{w w':World}{A:Option Addr}{c:Nat}{rows:List (List Bool)}
theorem oQ.len (h:oQ w D A c rows):rows.length<=140737488355328/\rows.length<=c/\c<=9223372036854775807:=let ⟨_,h1,_⟩:=h;h1.1.2
theorem oQ.keep (h:oQ w D A c rows)(hk:Keeps D w w'):oQ w' D A c rows :=
 let ⟨vs,h1,h2⟩:=h
 ⟨vs,h1.keep hk,λ i hi=>let ⟨A',c',h3,h4⟩:=h2 i hi;⟨A',c',h3,h4.keep hk⟩⟩
theorem oQ.mono (h:oQ w D A c rows)(hE:∀b,D b->b<w.heap.size->E b):oQ w E A c rows :=
 let ⟨vs,h1,h2⟩:=h
 ⟨vs,h1.mono hE,λ i hi=>let ⟨A',c',h3,h4⟩:=h2 i hi;⟨A',c',h3,h4.mono hE⟩⟩
theorem oQ.old (h:oQ w D A c rows):oQ w (· < w.heap.size) A c rows:=h.mono λ _ _ hl=>hl
theorem oQ.get {k:Nat}(h:oQ w D A c rows)(hk:k<rows.length):∃b o A' c' r,A=some ⟨b,o,none⟩/\D b/\b<w.heap.size/\Hid (rows.getD k []=r)/\RdB w D A' c' r /\
  w.cell? ⟨b,o+k,none⟩=some (.slice A' r.length c'):=by
 obtain⟨vs,h1,h2⟩:=h;obtain⟨b,o,e,hb,hl,hc⟩:=h1.2 (by omega);obtain⟨A',c',h3,h4⟩:=h2 k hk;exact⟨b,o,A',c',_,e,hb,hl,hid rfl,h4,hc k _ h3⟩
end
theorem yG {b L t:Nat}:fJ b L t=if t<b+L then t else b+(t-b) % L:=rfl
theorem yF (ax b L n t:Nat)(w:World)(hnb:n=b+L)(hL:0<L)(hn:n<=1000000)(ht:t<=1000000)(h3:w.cell? ⟨ax,3,none⟩=some (.int .i64 (b:Int)))(h4:w.cell? ⟨ax,4,none⟩=some (.int .i64 (n:Int))) :
  Calls Tryz.prog 68 #[.pointer (some ⟨ax,0,none⟩),.int .i64 (t:Int)] w λ e w'=>e = .returned (.int .i64 (fJ b L t:Int))/\Below w.heap.size w w':=by
 have hal:ax<w.heap.size:=World.block_lt_of_cell? _ _ h3;have lW:=hid hnb
 by_cases hlt:t<n
 ·have d1:(t:Int)<(n:Int):=by omega
  have d2:decide ((t:Int)<(n:Int))=true:=decide_eq_true d1;have HP:=hid (show fJ b L t=t by rw[yG,if_pos (by omega)]);clear hnb
  go_enter Tryz.func68,Tryz.ntmps68
  go_wp2_with fail
  go_ret
  exact⟨by rw[HP.out];rfl,by go_grown⟩
 ·have d1:¬(t:Int)<(n:Int):=by omega
  have d2:decide ((t:Int)<(n:Int))=false:=decide_eq_false d1;have HP:=hid (show fJ b L t=b+(t-b) % L by rw[yG,if_neg (by omega)]);obtain⟨q,hq⟩:∃q,(t-b) % L=q:=⟨_,rfl⟩;have VI:q<L:=by rw[<-hq];exact Nat.mod_lt _ hL
  have e1:((t:Int)-(b:Int)).tmod ((n:Int)-(b:Int))=(q:Int):=by
   rw[show(t:Int)-(b:Int)=((t-b:Nat):Int)by omega,show(n:Int)-(b:Int)=(L:Int)by omega,Int.tmod_eq_emod_of_nonneg (by omega),<-hq];rfl
  have w2:IntKind.i64.wrap ((t:Int)-(b:Int))=(t:Int)-(b:Int):=IntWalk.i64_in _ (by omega);have w3:IntKind.i64.wrap ((n:Int)-(b:Int))=(n:Int)-(b:Int):=IntWalk.i64_in _ (by omega);have w4:IntKind.i64.wrap ((b:Int)+(q:Int))=(b:Int)+(q:Int):=IntWalk.i64_in _ (by omega);have w5:IntKind.i64.wrap (q:Int)=(q:Int):=IntWalk.i64_in _ (by omega);have d3:((n:Int)-(b:Int)==0)=false:=cu (by omega);have d4:¬(n:Int)-(b:Int)=0:=by omega
  clear hnb
  go_enter Tryz.func68,Tryz.ntmps68
  go_upto_region 3 with(fail)
  go_quiet (fail)
  go_wp2_with fail
  go_ret
  exact⟨dD (by rw[HP.out,<-hq];omega),below_drewN (Below.refl _ _) _⟩
theorem QE {D:Dom}(ax s L n t i:Nat)(Av:Option Addr)(cv:Nat)(vals:List (List Int))(x:Int)(w:World)(hv:BN w D Av cv vals)(hnb:n=vals.length)(hnl:vals.length=s+L)(hL:0<L)(hn:n<=1000000)(ht:t<=1000000)
  (h1:w.cell? ⟨ax,1,none⟩=some (.slice Av n cv)) (h2:w.cell? ⟨ax,2,none⟩=some (.int .i64 (s:Int))) (hi:i<(vals.getD (fJ s L t) []).length) (hx:(vals.getD (fJ s L t) []).getD i 0=x) :
  Calls Tryz.prog 168 #[.pointer (some ⟨ax,0,none⟩),.int .i64 (t:Int),.int .i64 (i:Int)] w λ e w'=>e = .returned (.int .i64 x)/\Below w.heap.size w w':=by
 subst hnb;have hal:ax<w.heap.size:=World.block_lt_of_cell? _ _ h1;have hpl:=lF (b:=s) (t:=t) hL;obtain⟨b,o,A',c',r,rfl,_,hlb,HX,hr,x0⟩:=hv.get (k:=fJ s L t) (by omega);rw[HX.out]at hi hx;obtain⟨b',o',y,rfl,_,VH,HY,y0⟩:=hr.get hi;have hyx:y=x:=by rw[<-HY.out];exact hx
 subst hyx;have hrl:=hr.len.1;have hii:(i:Int)<(r.length:Int):=by omega
 have hi0:(0:Int)<=(i:Int):=by omega
 have hvl:=hv.len.1;have HNL:=hid hnl;clear HX hr hv hx hi HY
 by_cases hlt:t<vals.length
 ·have d1:(t:Int)<(vals.length:Int):=by omega
  have d2:decide ((vals.length:Int)<=(t:Int))=false:=decide_eq_false (by omega);have d3:¬(vals.length:Int)<=(t:Int):=by omega
  have hp:fJ s L t=t:=by rw[yG,if_pos (by omega)]
  rw[hp]at x0;clear hpl hnl hp
  go_enter Tryz.func168,Tryz.ntmps168
  go_wp2_with fail
  go_ret
  exact⟨rfl,by go_grown⟩
 ·have d1:(vals.length:Int)<=(t:Int):=by omega
  have d2:decide ((vals.length:Int)<=(t:Int))=true:=decide_eq_true d1;have hp:fJ s L t=s+(t-s) % L:=by rw[yG,if_neg (by omega)]
  obtain⟨q,hq⟩:∃q,(t-s) % L=q:=⟨_,rfl⟩;have VI:q<L:=by rw[<-hq];exact Nat.mod_lt _ hL
  rw[hp,hq]at x0
  have e1:((t:Int)-(s:Int)).tmod ((vals.length:Int)-(s:Int))=(q:Int):=by
   rw[show(t:Int)-(s:Int)=((t-s:Nat):Int)by omega,show(vals.length:Int)-(s:Int)=(L:Int)by omega,Int.tmod_eq_emod_of_nonneg (by omega),<-hq];rfl
  have w2:IntKind.i64.wrap ((t:Int)-(s:Int))=(t:Int)-(s:Int):=IntWalk.i64_in _ (by omega);have w3:IntKind.i64.wrap ((vals.length:Int)-(s:Int))=(vals.length:Int)-(s:Int):=IntWalk.i64_in _ (by omega);have w4:IntKind.i64.wrap ((s:Int)+(q:Int))=(s:Int)+(q:Int):=IntWalk.i64_in _ (by omega);have w5:IntKind.i64.wrap (q:Int)=(q:Int):=IntWalk.i64_in _ (by omega);have d3:((vals.length:Int)-(s:Int)==0)=false:=cu (by omega);have d4:¬(vals.length:Int)-(s:Int)=0:=by omega
  have k1:(s:Int)+(q:Int)<(vals.length:Int):=by omega
  have k2:(0:Int)<=(s:Int)+(q:Int):=by omega
  have k3:((s:Int)+(q:Int)).toNat=s+q:=by omega
  clear hpl hnl hp hq
  go_enter Tryz.func168,Tryz.ntmps168
  go_upto_region 2 with(fail)
  go_quiet (fail)
  go_wp2_with fail
  go_ret
  exact⟨rfl,by first|exact below_drewN (Below.refl _ _) _|go_grown⟩
theorem U7 {rs:List (List Bool)}{p:List Bool->Bool}{k:Nat}(h:∀j,j<k->p (rs.getD j [])=true)(hk:k<rs.length)(hn:p (rs.getD k [])=false):rs.all p=false:=by
 cases ha:rs.all p
 ·rfl
 ·have h1:=List.all_eq_true.1 ha (rs.getD k []) (by simp[List.getD,hk])
  rw[hn]at h1;cases h1
theorem Yj {rs:List (List Bool)}{p:List Bool->Bool}(h:∀j,j<rs.length->p (rs.getD j [])=true):rs.all p=true:=by
 rw[List.all_eq_true];intro r hr;obtain⟨j,hj,rfl⟩:=List.mem_iff_getElem.1 hr;have:=h j hj;simpa[List.getD,hj]using this
theorem O4 {D:Dom}(rs:List (List Bool))(A:Option Addr)(m c t N:Nat)(v:Bool)(w:World)(hm:m=rs.length)(h:oQ w D A c rs)(hN:∀i,i<rs.length->(rs.getD i []).length=N)(ht:t<N) :
  Calls Tryz.prog 173 #[.slice A m c,.int .i64 (t:Int),.bool v] w λ e w'=>e = .returned (.bool (rs.all λ r=>dP r t==v))/\Below w.heap.size w w':=by
 subst hm;have HH:=hid h;have HN:=hid hN;have hlen:=h.len.1;clear h hN
 go_enter Tryz.func173,Tryz.ntmps173
 go_wp2_with fail
 go_loopw [11] (λ r wr=>∃k:Nat,k<=rs.length/\r = .int .i64 (k:Int)/\(∀j,j<k->(dP (rs.getD j []) t==v)=true)/\wr=w) (λ r _=>rs.length-(intOf r).toNat)
 case atStart=>exact⟨0,Nat.zero_le _,rfl,λ j h=>absurd h (Nat.not_lt_zero _),rfl⟩
 case round =>
  obtain⟨k,hk,rfl,hj,rfl⟩:=hrel;have HJ:=hid hj;clear hj
  by_cases hlt:k<rs.length
  ·have hii:(k:Int)<(rs.length:Int):=by omega
   have hi0:(0:Int)<=(k:Int):=by omega
   obtain⟨b,o,A',c',r,rfl,_,hlb,HX,hr,x0⟩:=HH.out.get hlt;have hrn:r.length=N:=by rw[<-HX.out];exact HN.out k hlt
   obtain⟨b',o',y,rfl,_,VH,HY,y0⟩:=hr.get (k:=t) (by omega);have hrl:=hr.len.1;have htt:(t:Int)<(r.length:Int):=by omega
   have ht0:(0:Int)<=(t:Int):=by omega
   have HG:=hid (show dP (rs.getD k []) t=y by rw[HX.out];exact HY.out);clear HX hr HY
   by_cases hyv:(y==v)=true
   ·have d1:(y != v)=false:=by rw[bne,hyv];rfl
    go_wp2_with fail
    go_roundw
    case rel=>exact⟨k+1,by omega,by go_num,λ j hj=>by
     by_cases e:j=k
     ·subst e;rw[HG.out];exact hyv
     ·exact HJ.out j (by omega),trivial⟩
    case measure=>simp[intOf];omega
   ·have qgL:(y==v)=false:=by simpa using hyv
    have d1:(y != v)=true:=by rw[bne,qgL];rfl
    go_wp2_with fail
    go_ret
    exact⟨aF (by rw[U7 HJ.out hlt (by rw[HG.out];exact qgL)]),by go_grown⟩
  ·have hii:¬(k:Int)<(rs.length:Int):=by omega
   have hkn:k=rs.length:=by omega
   go_wp2_with fail
   go_ret
   exact⟨aF (by rw[Yj (λ j hj=>HJ.out j (by omega))]),by go_grown⟩
end Go.Proofs.YtdpbgcmfeajigaaGreatDoor
namespace Go.Proofs.YtdpbgcmfeajigaaGreatDoor
open Go.RowKit Go.Shelf
attribute [local go_sem] ak run_store_func Oper.semAt_some
theorem aH.F9 {w W:World}(h:aH (λ _=>False) w W):Below w.heap.size w W:=⟨h.os,h.tape,h.output,h.size,λ k hk=>h.block k hk λ h=>h⟩
theorem lC (ax gf n:Nat)(caps:Array Value)(u:Nat->Bool)(w:World)(hn:n<=1000000)(ha:w.cell? ⟨ax,4,none⟩=some (.int .i64 (n:Int)))
  (eg:∀args w,(callFunc gf args).run Tryz.prog w = .ok (.enter gf args) w)
  (hs:∀k W,k<n->Below w.heap.size w W->Calls Tryz.prog gf (#[.int .i64 (k:Int)]++caps) W λ e W'=>e = .returned (.bool (u k))/\Below W.heap.size W W') :
  Calls Tryz.prog 162 #[.pointer (some ⟨ax,0,none⟩),.func (.func gf) #[] caps] w λ e w'=>e = .returned (.slice (some ⟨w.heap.size,0,none⟩) n n)/\gU w' w.heap.size (kK n u)/\Below w.heap.size w w':=by
 refine(FB ax gf n caps u (λ _=>False) (λ _ _=>True) w hn (λ _ h=>h.elim) (λ h=>h) ha eg trivial (λ _ _ _ _ _=>trivial) (λ k W hk hc _=>(hs k W hk hc.F9).mono ?_)).mono ?_
 ·rintro e W' ⟨rfl,hb⟩
  exact⟨rfl,aH.aS hb,trivial⟩
 ·rintro e w' ⟨rfl,h1,h2,_⟩
  exact⟨rfl,h1,h2.F9⟩
def lq (w:World)(n:Nat)(R:List Bool)(e:Ending)(w':World):Prop:=∃A c,e = .returned (.slice A n c)/\RdB w' (λ k=>w.heap.size<=k) A c R/\R.length=n/\Below w.heap.size w w'
theorem lq.row {w w2 w':World}{n b:Nat}{R:List Bool}(h:gU w' b R)(hl:R.length=n)(hn:n<=1000000)(hb:w.heap.size<=b)(hw:Below w.heap.size w w'):lq w n R (.returned (.slice (some ⟨b,0,none⟩) n n)) w':=by
 subst hl;exact⟨_,_,rfl,h.rd hn hb,rfl,hw⟩
structure Env (w:World) (D:Dom) (bx cb ax:Nat) (l:List Sg) (W:iV) (b:Nat):Prop where
 box:w.heap[bx]?=some (.cells #[.pointer (some ⟨ax,0,none⟩)] 96 (0,0))
 Nl:w.heap[cb]?=some (.cells #[.func (.func 161) #[] #[.pointer (some ⟨bx,0,none⟩)]] 185 (0,0))
 dbx:D bx
 dcb:D cb
 dax:D ax
 hL:0<W.loop.length
 hn:b+W.loop.length<=100000
 hs:W.stem.length<=b
 axis:∃yP yX Av cv vals,Ql w ax yP l.length yX Av vals.length cv W.stem.length b (b+W.loop.length)/\ng w D yP yX l/\BN w D Av cv vals/\vals.length=W.stem.length+W.loop.length /\
  ∀t,t<W.stem.length+W.loop.length->(vals.getD t []).length=l.length/\∀i,i<l.length->(vals.getD t []).getD i 0=gy l (aP W t) i
section
variable {w w':World}{D E:Dom}{bx cb ax b:Nat}{l:List Sg}{W:iV}
theorem ng.keepD {A:Option Addr}{c:Nat}{l:List Sg}(h:ng w D A c l)(hk:Keeps D w w'):ng w' D A c l:=Rd.keep h hk
theorem Env.keep (h:Env w D bx cb ax l W b)(hk:Keeps D w w'):Env w' D bx cb ax l W b:=by
 obtain⟨yP,yX,Av,cv,vals,h1,h2,h3,h4,h5⟩:=h.axis
 exact⟨(hk.block _ h.dbx (lt_of_block h.box)).trans h.box,(hk.block _ h.dcb (lt_of_block h.Nl)).trans h.Nl,h.dbx,h.dcb,h.dax,h.hL,h.hn,h.hs,
  yP,yX,Av,cv,vals,(hk.block _ h.dax (lt_of_block h1)).trans h1,h2.keepD hk,h3.keep hk,h4,h5⟩
theorem Env.mono (h:Env w D bx cb ax l W b)(hE:∀b,D b->b<w.heap.size->E b):Env w E bx cb ax l W b:=by
 obtain⟨yP,yX,Av,cv,vals,h1,h2,h3,h4,h5⟩:=h.axis
 exact⟨h.box,h.Nl,hE _ h.dbx (lt_of_block h.box),hE _ h.dcb (lt_of_block h.Nl),hE _ h.dax (lt_of_block h1),h.hL,h.hn,h.hs,
  yP,yX,Av,cv,vals,h1,Rd.mono h2 hE,h3.mono hE,h4,h5⟩
theorem Env.below (h:Env w (· < w.heap.size) bx cb ax l W b)(hb:Below w.heap.size w w'):Env w' (· < w'.heap.size) bx cb ax l W b :=
 (h.keep (Keeps.of_below hb λ _ h=>h)).mono λ k hk _=>Nat.lt_of_lt_of_le hk hb.size
theorem Env.cells (h:Env w D bx cb ax l W b):w.cell? ⟨bx,0,none⟩=some (.pointer (some ⟨ax,0,none⟩))/\bx<w.heap.size/\w.cell? ⟨ax,3,none⟩=some (.int .i64 (b:Int))/\w.cell? ⟨ax,4,none⟩=some (.int .i64 ((b+W.loop.length:Nat):Int)):=by
 obtain⟨yP,yX,Av,cv,vals,h1,h2,h3,h4,h5⟩:=h.axis;exact⟨aj h.box (i:=0) rfl,lt_of_block h.box,aj h1 (i:=3) rfl,aj h1 (i:=4) rfl⟩
end
theorem Rt (pb:Nat)(v:Bool)(k:Int)(w:World)(h:w.cell? ⟨pb,0,none⟩=some (.bool v)) :
  Calls Tryz.prog 163 #[.int .i64 k,.pointer (some ⟨pb,0,none⟩)] w λ e w'=>e = .returned (.bool v)/\Below w.heap.size w w':=by
 have hl:pb<w.heap.size:=World.block_lt_of_cell? _ _ h
 go_enter Tryz.func163,Tryz.ntmps163
 go_wp2_with fail
 go_ret
 exact⟨rfl,by go_grown⟩
theorem Fz (bx cb ax b:Nat)(l:List Sg)(W:iV)(v:Bool)(w:World)(h:Env w (· < w.heap.size) bx cb ax l W b) :
  Calls Tryz.prog 161 #[.bool v,.pointer (some ⟨bx,0,none⟩)] w (lq w (b+W.loop.length) (kK (b+W.loop.length) λ _=>v)):=by
 have HE:=hid h;obtain⟨e0,e1,e3,e4⟩:=h.cells;obtain⟨N,hN⟩:∃N,N=b+W.loop.length:=⟨_,rfl⟩;have HN:=hid (show N<=100000 by rw[hN];exact h.hn);rw[<-hN]at e4⊢;have ex:ax<w.heap.size:=World.block_lt_of_cell? _ _ e4;have hmf:∀(fn:Fn) (first cap:Array Value) (w:World),(Instr.makeFunc fn first cap).run Tryz.prog w = .ok (.func fn first cap) w := λ _ _ _ _=>rfl;clear h hN
 go_enter Tryz.func161,Tryz.ntmps161
 go_upto_region 1 with(fail)
 refine aC λ U hU=>?_;have HB:=hid (show Below w.heap.size w U by rw[hU];go_grown);have HP:=hid (show U.cell? ⟨w.heap.size,0,none⟩=some (.bool v)by rw[hU];exact aj (at_new _ _ _ rfl) (i:=0) rfl);have HS:=hid (show U.heap.size=w.heap.size+1 by rw[hU];simp);have u0:=(HB.out.cell (p:=⟨bx,0,none⟩) e1).trans e0;have u1:bx<U.heap.size:=Nat.lt_of_lt_of_le e1 HB.out.size;have HA:=hid ((HB.out.cell (p:=⟨ax,4,none⟩) ex).trans e4);clear hU e0 e1 e3 e4 ex
 go_wp2_with (go_at_call 162;refine(lC ax 163 N #[.pointer (some ⟨w.heap.size,0,none⟩)] (λ _=>v) U (by have:=HN.out;omega) HA.out (enters_of Tryz.func163 (by kernel_rfl) rfl) (λ k W' hk hb=>Rt w.heap.size v k W' ((hb.cell (p:=⟨w.heap.size,0,none⟩) (by have:=HS.out;show w.heap.size<_;omega)).trans HP.out))).mono ?_;rintro e w2 ⟨rfl,hrow,hb2⟩;have HR:=hid hrow;have HB2:=hid (au HB.out hb2);clear hrow hb2)
 go_ret
 exact lq.row (w2:=w2) HR.out (lg _ _) (by have:=HN.out;omega) HB.out.size HB2.out
structure RowsIn (w:World) (D:Dom) (rb:Nat) (n:Nat) (rs:List (List Bool)):Prop where
 ex:∃A c,w.heap[rb]?=some (.cells #[.slice A rs.length c] 160 (0,0))/\oQ w D A c rs
 all:∀i,i<rs.length->(rs.getD i []).length=n
theorem RowsIn.below {w w':World}{D:Dom}{rb n:Nat}{rs:List (List Bool)}(h:RowsIn w D rb n rs)(hb:Below w.heap.size w w'):RowsIn w' aW rb n rs:=by
 obtain⟨A,c,h1,h2⟩:=h.ex;exact⟨⟨A,c,(hb.block _ (lt_of_block h1)).trans h1,(h2.old.keep (Keeps.of_below hb λ _ h=>h)).mono λ _ _ _=>trivial⟩,h.all⟩
theorem Ru {D:Dom}(rb n k:Nat)(rs:List (List Bool))(w:World)(h:RowsIn w D rb n rs)(h1:1<=rs.length)(hk:k<n) :
  Calls Tryz.prog 170 #[.int .i64 (k:Int),.pointer (some ⟨rb,0,none⟩)] w λ e w'=>e = .returned (.bool (!dP (rs.getD 0 []) k))/\Below w.heap.size w w':=by
 obtain⟨A,c,hb,hr⟩:=h.ex;have hal:=h.all;have r0:=aj hb (i:=0) rfl;have r1:=lt_of_block hb;have hlen:=hr.len.1;obtain⟨b,o,A',c',r,rfl,_,hlb,HX,hr',x0⟩:=hr.get (k:=0) h1;have hrn:r.length=n:=by rw[<-HX.out];exact hal 0 h1
 obtain⟨b',o',y,rfl,_,VH,HY,y0⟩:=hr'.get (k:=k) (by omega);have hrl:=hr'.len.1;rw[Nat.add_zero]at x0;have HG:=hid (show dP (rs.getD 0 []) k=y by rw[HX.out];exact HY.out);have htt:(k:Int)<(r.length:Int):=by omega
 have ht0:(0:Int)<=(k:Int):=by omega
 have d1:(0:Int)<(rs.length:Int):=by omega
 clear h hb hr HX hr' HY hal
 go_enter Tryz.func170,Tryz.ntmps170
 go_wp2_with fail
 go_ret
 exact⟨aF (by rw[HG.out]),by go_grown⟩
theorem all_true (rs:List (List Bool))(k:Nat):(rs.all λ r=>dP r k==true)=rs.all λ r=>dP r k:=by congr 1;funext r;cases dP r k <;> rfl
theorem all_false (rs:List (List Bool))(k:Nat):(!rs.all λ r=>dP r k==false)=rs.any λ r=>dP r k:=by
 induction rs with
 | nil=>rfl
 | cons r rs ih=>rw[List.all_cons,List.any_cons,Bool.not_and,ih];cases dP r k <;> rfl
theorem Rw {D:Dom}(rb n k:Nat)(rs:List (List Bool))(w:World)(h:RowsIn w D rb n rs)(hk:k<n) :
  Calls Tryz.prog 172 #[.int .i64 (k:Int),.pointer (some ⟨rb,0,none⟩)] w λ e w'=>e = .returned (.bool (rs.all λ r=>dP r k))/\Below w.heap.size w w':=by
 obtain⟨A,c,hb,hr⟩:=h.ex;have HT:=hid (O4 rs A rs.length c k n true w rfl hr h.all hk);rw[all_true]at HT;have r0:=aj hb (i:=0) rfl;have r1:=lt_of_block hb;clear h hb hr
 go_enter Tryz.func172,Tryz.ntmps172
 go_wp2_with (go_at_call 173;refine HT.out.mono ?_;rintro e w2 ⟨rfl,hb2⟩;have HB2:=hid hb2;clear hb2)
 go_ret
 exact⟨rfl,HB2.out⟩
theorem Rx {D:Dom}(rb n k:Nat)(rs:List (List Bool))(w:World)(h:RowsIn w D rb n rs)(hk:k<n) :
  Calls Tryz.prog 175 #[.int .i64 (k:Int),.pointer (some ⟨rb,0,none⟩)] w λ e w'=>e = .returned (.bool (rs.any λ r=>dP r k))/\Below w.heap.size w w':=by
 obtain⟨A,c,hb,hr⟩:=h.ex;obtain⟨v,hv⟩:∃v,(rs.all λ r=>dP r k==false)=v:=⟨_,rfl⟩;have HT:=hid (O4 rs A rs.length c k n false w rfl hr h.all hk);rw[hv]at HT;have HV:=hid (show(rs.any λ r=>dP r k) = !v by rw[<-hv,all_false]);have r0:=aj hb (i:=0) rfl;have r1:=lt_of_block hb;clear h hb hr hv
 go_enter Tryz.func175,Tryz.ntmps175
 go_wp2_with (go_at_call 173;refine HT.out.mono ?_;rintro e w2 ⟨rfl,hb2⟩;have HB2:=hid hb2;clear hb2)
 go_ret
 exact⟨aF HV.out.symm,HB2.out⟩
theorem Ry {D:Dom}(rb bx cb ax b k:Nat)(l:List Sg)(W:iV)(rs:List (List Bool))(w:World)(h:RowsIn w D rb (b+W.loop.length) rs)(he:Env w (· < w.heap.size) bx cb ax l W b)(h1:1<=rs.length)(hk:k<b+W.loop.length) :
  Calls Tryz.prog 179 #[.int .i64 (k:Int),.pointer (some ⟨rb,0,none⟩),.pointer (some ⟨bx,0,none⟩)] w λ e w'=>e = .returned (.bool (dP (rs.getD 0 []) (fJ b W.loop.length (k+1))))/\Below w.heap.size w w':=by
 obtain⟨e0,e1,e3,e4⟩:=he.cells;obtain⟨A,c,hb,hr⟩:=h.ex;have hal:=h.all;have r0:=aj hb (i:=0) rfl;have r1:=lt_of_block hb;have hlen:=hr.len.1;have hLL:=he.hL;have hnn:=he.hn;have hpl:=lF (b:=b) (t:=k+1) hLL;obtain⟨q,hq⟩:∃q,fJ b W.loop.length (k+1)=q:=⟨_,rfl⟩;obtain⟨N,hN⟩:∃N,N=b+W.loop.length:=⟨_,rfl⟩;rw[hq]at hpl⊢;obtain⟨pb,o,A',c',r,rfl,_,hlb,HX,hr',x0⟩:=hr.get (k:=0) h1;have hrn:r.length=b+W.loop.length:=by rw[<-HX.out];exact hal 0 h1
 obtain⟨b',o',y,rfl,_,VH,HY,y0⟩:=hr'.get (k:=q) (by omega);have hrl:=hr'.len.1;rw[Nat.add_zero]at x0;have HG:=hid (show dP (rs.getD 0 []) q=y by rw[HX.out];exact HY.out);rw[<-hN]at e4
 have HC:Hid (∀W':World,Below w.heap.size w W'->Calls Tryz.prog 68 #[.pointer (some ⟨ax,0,none⟩),.int .i64 ((k:Int)+1)] W' λ e w2=>e = .returned (.int .i64 (q:Int))/\Below w.heap.size w w2):=hid λ W' h=>by
  have hax:ax<w.heap.size:=World.block_lt_of_cell? _ _ e3;have:=yF ax b W.loop.length N (k+1) W' hN hLL (by omega) (by omega) ((h.cell (p:=⟨ax,3,none⟩) hax).trans e3) ((h.cell (p:=⟨ax,4,none⟩) hax).trans e4);rw[hq]at this;exact this.mono λ e w2 h2=>⟨h2.1,au h h2.2⟩
 have aI:Hid (∀W':World,Below w.heap.size w W'->W'.cell? ⟨rb,0,none⟩=some (.slice (some ⟨pb,o,none⟩) rs.length c)/\W'.cell? ⟨pb,o,none⟩=some (.slice (some ⟨b',o',none⟩) r.length c')/\W'.cell? ⟨bx,0,none⟩=some (.pointer (some ⟨ax,0,none⟩))/\W'.cell? ⟨b',o'+q,none⟩=some (.bool y)):=hid λ W' hb =>
  ⟨(hb.cell (p:=⟨rb,0,none⟩) r1).trans r0,(hb.cell (p:=⟨pb,o,none⟩) hlb).trans (by simpa using x0),(hb.cell (p:=⟨bx,0,none⟩) e1).trans e0,(hb.cell (p:=⟨b',o'+q,none⟩) VH).trans y0⟩
 have htt:(q:Int)<(r.length:Int):=by omega
 have ht0:(0:Int)<=(q:Int):=by omega
 have d1:(0:Int)<(rs.length:Int):=by omega
 have d2:0<rs.length:=h1;have d3:rs ≠ [] := λ h=>by rw[h]at d2;exact Nat.lt_irrefl _ d2
 have d4:¬rs = []:=d3;have d5:q<r.length:=by omega
 have d6:¬(rs.length:Int)<=0:=by omega
 have d7:¬(r.length:Int)<=(q:Int):=by omega
 have w1:IntKind.i64.wrap ((k:Int)+1)=(k:Int)+1:=IntWalk.i64_in _ (by omega);clear h he hb hr HX hr' HY hal hq hN e3 e4 hnn hpl r0 x0 y0 e0 hrn hk;have HI1:=hid (show Below w.heap.size w w.drew from(Below.refl _ _).drew);have HI2:=hid (show∀i,Below w.heap.size w (w.drewN i)from λ i=>(aU.n w i).below _);obtain⟨s0,s1,s2,s3⟩:=aI.out w (Below.refl _ _)
 go_enter Tryz.func179,Tryz.ntmps179
 go_upto_region 1 with(fail)
 go_region_held3 (λ W':World=>W'.cell? ⟨rb,0,none⟩=some (.slice (some ⟨pb,o,none⟩) rs.length c)/\W'.cell? ⟨pb,o,none⟩=some (.slice (some ⟨b',o',none⟩) r.length c')/\W'.cell? ⟨bx,0,none⟩=some (.pointer (some ⟨ax,0,none⟩))/\W'.cell? ⟨b',o'+q,none⟩=some (.bool y))
  (first|(with_reducible exact aI.out _ hI)|(go_keep;done))
  ((go_at_call 68;(with_reducible refine(HC.out _ (by first|exact HI1.out|exact HI2.out _)).mono ?_);rintro e V ⟨rfl,hI⟩))
 all_goals
  have iD:=hid hI;go_wp2_with fail
  go_ret
  exact⟨aF (by rw[HG.out]),iD.out⟩
theorem NT {D:Dom}(fx fb fo rb n k:Nat)(v:Int)(rs:List (List Bool))(w:World)(h:RowsIn w D rb n rs)(hf0:w.cell? ⟨fx,0,none⟩=some (.pointer (some ⟨fb,fo,none⟩)))(hf2:w.cell? ⟨fb,fo+2,none⟩=some (.int .i64 v))(h1:1<=rs.length)(hk:k<n) :
  Calls Tryz.prog 192 #[.int .i64 (k:Int),.pointer (some ⟨fx,0,none⟩),.pointer (some ⟨rb,0,none⟩)] w λ e w'=>e = .returned (.bool ((decide (k=0)&&decide (v=1)) || (decide (0<k)&&dP (rs.getD 0 []) (k-1))))/\Below w.heap.size w w':=by
 obtain⟨R,hR⟩:∃R,((decide (k=0)&&decide (v=1)) || (decide (0<k)&&dP (rs.getD 0 []) (k-1)))=R:=⟨_,rfl⟩;rw[hR];obtain⟨A,c,hb,hr⟩:=h.ex;have hal:=h.all;have r0:=aj hb (i:=0) rfl;have r1:=lt_of_block hb;have f1:fx<w.heap.size:=World.block_lt_of_cell? _ _ hf0;have f2:fb<w.heap.size:=World.block_lt_of_cell? _ _ hf2;have hlen:=hr.len.1
 by_cases hk0:k=0
 ·subst hk0
  have HR:=hid (show R=decide (v=1)by rw[<-hR];simp);clear hR
  by_cases hv:v=1
  ·have d1:(v==1)=true:=by rw[hv];rfl
   clear h hb hr hal hk
   go_enter Tryz.func192,Tryz.ntmps192
   go_wp2_with fail
   go_ret
   exact⟨aF (by rw[HR.out,hv];rfl),by go_grown⟩
  ·have d1:(v==1)=false:=cu hv
   clear h hb hr hal hk
   go_enter Tryz.func192,Tryz.ntmps192
   go_wp2_with fail
   go_ret
   exact⟨aF (by rw[HR.out,decide_eq_false hv]),by go_grown⟩
 ·obtain⟨q,rfl⟩:∃q,k=q+1:=⟨k-1,by omega⟩
  have HR:=hid (show R=dP (rs.getD 0 []) q by rw[<-hR];simp);clear hR;obtain⟨pb,o,A',c',r,rfl,_,hlb,HX,hr',x0⟩:=hr.get (k:=0) h1;have hrn:r.length=n:=by rw[<-HX.out];exact hal 0 h1
  obtain⟨b',o',y,rfl,_,VH,HY,y0⟩:=hr'.get (k:=q) (by omega);have hrl:=hr'.len.1;rw[Nat.add_zero]at x0;have HG:=hid (show dP (rs.getD 0 []) q=y by rw[HX.out];exact HY.out);obtain⟨z,hz⟩:∃z:Int,((q+1:Nat):Int)=z:=⟨_,rfl⟩;rw[hz];have hzq:z-1=(q:Int):=by omega
  have d1:(z==0)=false:=cu (by omega);have d2:(0:Int)<z:=by omega
  have d3:decide ((0:Int)<z)=true:=decide_eq_true d2;have htt:(q:Int)<(r.length:Int):=by omega
  have ht0:(0:Int)<=(q:Int):=by omega
  have d4:(0:Int)<(rs.length:Int):=by omega
  have w1:IntKind.i64.wrap (q:Int)=(q:Int):=IntWalk.i64_in _ (by omega);clear h hb hr hal hk hrn HX hr' HY hz hk0
  go_enter Tryz.func192,Tryz.ntmps192
  go_wp2_with fail
  go_ret
  exact⟨aF (by rw[HR.out,HG.out]),by go_grown⟩
end Go.Proofs.YtdpbgcmfeajigaaGreatDoor
namespace Go.Proofs.YtdpbgcmfeajigaaGreatDoor
open Go.RowKit Go.Shelf
attribute [local go_sem] ak run_store_func Oper.semAt_some
theorem lq.of_below {w w1 w':World}{n:Nat}{R:List Bool}{e:Ending}(h:lq w1 n R e w')(hb:Below w.heap.size w w1):lq w n R e w':=by
 obtain⟨A,c,h1,h2,h3,h4⟩:=h;exact⟨A,c,h1,h2.mono λ k hk _=>Nat.le_trans hb.size hk,h3,au hb h4⟩
theorem Zm (pv:Value)(A:Option Addr)(m c bx cb ax b:Nat)(l:List Sg)(W:iV)(w:World)(h:Env w (· < w.heap.size) bx cb ax l W b) :
  Calls Tryz.prog 164 #[pv,.slice A m c,.pointer (some ⟨cb,0,none⟩)] w (lq w (b+W.loop.length) (kK (b+W.loop.length) λ _=>true)):=by
 have HE:=hid h;have e0:=aj h.Nl (i:=0) rfl;have e1:=lt_of_block h.Nl;have HC:=hid (Fz bx cb ax b l W true w h);clear h
 go_enter Tryz.func164,Tryz.ntmps164
 go_wp2_with (refine HC.out.mono ?_;rintro e w2 ⟨A',c',rfl,hr,hl,hb2⟩;have HR:=hid hr;have HL:=hid hl;have HB2:=hid hb2;clear hr hl hb2)
 go_ret
 exact⟨A',c',rfl,HR.out,HL.out,HB2.out⟩
theorem Zn (pv:Value)(A:Option Addr)(m c bx cb ax b:Nat)(l:List Sg)(W:iV)(w:World)(h:Env w (· < w.heap.size) bx cb ax l W b) :
  Calls Tryz.prog 165 #[pv,.slice A m c,.pointer (some ⟨cb,0,none⟩)] w (lq w (b+W.loop.length) (kK (b+W.loop.length) λ _=>false)):=by
 have HE:=hid h;have e0:=aj h.Nl (i:=0) rfl;have e1:=lt_of_block h.Nl;have HC:=hid (Fz bx cb ax b l W false w h);clear h
 go_enter Tryz.func165,Tryz.ntmps165
 go_wp2_with (refine HC.out.mono ?_;rintro e w2 ⟨A',c',rfl,hr,hl,hb2⟩;have HR:=hid hr;have HL:=hid hl;have HB2:=hid hb2;clear hr hl hb2)
 go_ret
 exact⟨A',c',rfl,HR.out,HL.out,HB2.out⟩
theorem Zp {D:Dom}(pv:Value)(A:Option Addr)(m c bx cb ax b:Nat)(l:List Sg)(W:iV)(rs:List (List Bool))(w:World)(h:Env w (· < w.heap.size) bx cb ax l W b)(hm:m=rs.length)(hr:oQ w D A c rs)(hal:∀i,i<rs.length->(rs.getD i []).length=b+W.loop.length)(h1:1<=rs.length) :
  Calls Tryz.prog 169 #[pv,.slice A m c,.pointer (some ⟨bx,0,none⟩)] w (lq w (b+W.loop.length) (kK (b+W.loop.length) (λ t => !dP (rs.getD 0 []) t))):=by
 subst hm;have HE:=hid h;have wI:=hid hr;have uM:=hid hal;obtain⟨e0,e1,e3,e4⟩:=h.cells;obtain⟨N,hN⟩:∃N,N=b+W.loop.length:=⟨_,rfl⟩;have HN:=hid (show N<=100000 by rw[hN];exact h.hn);have wo:=hid hN;rw[<-hN]at e4⊢;have ex:ax<w.heap.size:=World.block_lt_of_cell? _ _ e4;have hlen:=hr.len.1;have hmf:∀(fn:Fn) (first cap:Array Value) (w:World),(Instr.makeFunc fn first cap).run Tryz.prog w = .ok (.func fn first cap) w := λ _ _ _ _=>rfl;clear h hN hr hal
 go_enter Tryz.func169,Tryz.ntmps169
 go_upto_region 1 with(fail)
 refine aC λ U hU=>?_;have HB:=hid (show Below w.heap.size w U by rw[hU];go_grown);have HP:=hid (show U.heap[w.heap.size]?=some (.cells #[.slice A rs.length c] 160 (0,0))by rw[hU];exact at_new _ _ _ (by simp));have HS:=hid (show U.heap.size=w.heap.size+1 by rw[hU];simp);have HRI:=hid (show RowsIn U aW (w.heap.size) N rs from⟨⟨A,c,HP.out,(wI.out.old.keep (Keeps.of_below HB.out λ _ h=>h)).mono λ _ _ _=>trivial⟩,λ i hi=>by rw[wo.out];exact uM.out i hi⟩);have u0:=(HB.out.cell (p:=⟨bx,0,none⟩) e1).trans e0;have u1:bx<U.heap.size:=Nat.lt_of_lt_of_le e1 HB.out.size;have HA:=hid ((HB.out.cell (p:=⟨ax,4,none⟩) ex).trans e4);clear hU e0 e1 e3 e4 ex
 go_wp2_with (go_at_call 162;refine(lC ax 170 N #[.pointer (some ⟨w.heap.size,0,none⟩)] (λ t => !dP (rs.getD 0 []) t) U (by have:=HN.out;omega) HA.out (enters_of Tryz.func170 (by kernel_rfl) rfl) (λ k W' hk hb=>Ru w.heap.size N k rs W' (HRI.out.below hb) h1 hk)).mono ?_;rintro e w2 ⟨rfl,hrow,hb2⟩;have HR:=hid hrow;have HB2:=hid (au HB.out hb2);clear hrow hb2)
 go_ret
 exact lq.row (w2:=w2) HR.out (lg _ _) (by have:=HN.out;omega) HB.out.size HB2.out
theorem Zq {D:Dom}(pv:Value)(A:Option Addr)(m c bx cb ax b:Nat)(l:List Sg)(W:iV)(rs:List (List Bool))(w:World)(h:Env w (· < w.heap.size) bx cb ax l W b)(hm:m=rs.length)(hr:oQ w D A c rs)(hal:∀i,i<rs.length->(rs.getD i []).length=b+W.loop.length) :
  Calls Tryz.prog 171 #[pv,.slice A m c,.pointer (some ⟨bx,0,none⟩)] w (lq w (b+W.loop.length) (kK (b+W.loop.length) (λ t=>rs.all λ r=>dP r t))):=by
 subst hm;have HE:=hid h;have wI:=hid hr;have uM:=hid hal;obtain⟨e0,e1,e3,e4⟩:=h.cells;obtain⟨N,hN⟩:∃N,N=b+W.loop.length:=⟨_,rfl⟩;have HN:=hid (show N<=100000 by rw[hN];exact h.hn);have wo:=hid hN;rw[<-hN]at e4⊢;have ex:ax<w.heap.size:=World.block_lt_of_cell? _ _ e4;have hlen:=hr.len.1;have hmf:∀(fn:Fn) (first cap:Array Value) (w:World),(Instr.makeFunc fn first cap).run Tryz.prog w = .ok (.func fn first cap) w := λ _ _ _ _=>rfl;clear h hN hr hal
 go_enter Tryz.func171,Tryz.ntmps171
 go_upto_region 1 with(fail)
 refine aC λ U hU=>?_;have HB:=hid (show Below w.heap.size w U by rw[hU];go_grown);have HP:=hid (show U.heap[w.heap.size]?=some (.cells #[.slice A rs.length c] 160 (0,0))by rw[hU];exact at_new _ _ _ (by simp));have HS:=hid (show U.heap.size=w.heap.size+1 by rw[hU];simp);have HRI:=hid (show RowsIn U aW (w.heap.size) N rs from⟨⟨A,c,HP.out,(wI.out.old.keep (Keeps.of_below HB.out λ _ h=>h)).mono λ _ _ _=>trivial⟩,λ i hi=>by rw[wo.out];exact uM.out i hi⟩);have u0:=(HB.out.cell (p:=⟨bx,0,none⟩) e1).trans e0;have u1:bx<U.heap.size:=Nat.lt_of_lt_of_le e1 HB.out.size;have HA:=hid ((HB.out.cell (p:=⟨ax,4,none⟩) ex).trans e4);clear hU e0 e1 e3 e4 ex
 go_wp2_with (go_at_call 162;refine(lC ax 172 N #[.pointer (some ⟨w.heap.size,0,none⟩)] (λ t=>rs.all λ r=>dP r t) U (by have:=HN.out;omega) HA.out (enters_of Tryz.func172 (by kernel_rfl) rfl) (λ k W' hk hb=>Rw w.heap.size N k rs W' (HRI.out.below hb) hk)).mono ?_;rintro e w2 ⟨rfl,hrow,hb2⟩;have HR:=hid hrow;have HB2:=hid (au HB.out hb2);clear hrow hb2)
 go_ret
 exact lq.row (w2:=w2) HR.out (lg _ _) (by have:=HN.out;omega) HB.out.size HB2.out
theorem Zr {D:Dom}(pv:Value)(A:Option Addr)(m c bx cb ax b:Nat)(l:List Sg)(W:iV)(rs:List (List Bool))(w:World)(h:Env w (· < w.heap.size) bx cb ax l W b)(hm:m=rs.length)(hr:oQ w D A c rs)(hal:∀i,i<rs.length->(rs.getD i []).length=b+W.loop.length) :
  Calls Tryz.prog 174 #[pv,.slice A m c,.pointer (some ⟨bx,0,none⟩)] w (lq w (b+W.loop.length) (kK (b+W.loop.length) (λ t=>rs.any λ r=>dP r t))):=by
 subst hm;have HE:=hid h;have wI:=hid hr;have uM:=hid hal;obtain⟨e0,e1,e3,e4⟩:=h.cells;obtain⟨N,hN⟩:∃N,N=b+W.loop.length:=⟨_,rfl⟩;have HN:=hid (show N<=100000 by rw[hN];exact h.hn);have wo:=hid hN;rw[<-hN]at e4⊢;have ex:ax<w.heap.size:=World.block_lt_of_cell? _ _ e4;have hlen:=hr.len.1;have hmf:∀(fn:Fn) (first cap:Array Value) (w:World),(Instr.makeFunc fn first cap).run Tryz.prog w = .ok (.func fn first cap) w := λ _ _ _ _=>rfl;clear h hN hr hal
 go_enter Tryz.func174,Tryz.ntmps174
 go_upto_region 1 with(fail)
 refine aC λ U hU=>?_;have HB:=hid (show Below w.heap.size w U by rw[hU];go_grown);have HP:=hid (show U.heap[w.heap.size]?=some (.cells #[.slice A rs.length c] 160 (0,0))by rw[hU];exact at_new _ _ _ (by simp));have HS:=hid (show U.heap.size=w.heap.size+1 by rw[hU];simp);have HRI:=hid (show RowsIn U aW (w.heap.size) N rs from⟨⟨A,c,HP.out,(wI.out.old.keep (Keeps.of_below HB.out λ _ h=>h)).mono λ _ _ _=>trivial⟩,λ i hi=>by rw[wo.out];exact uM.out i hi⟩);have u0:=(HB.out.cell (p:=⟨bx,0,none⟩) e1).trans e0;have u1:bx<U.heap.size:=Nat.lt_of_lt_of_le e1 HB.out.size;have HA:=hid ((HB.out.cell (p:=⟨ax,4,none⟩) ex).trans e4);clear hU e0 e1 e3 e4 ex
 go_wp2_with (go_at_call 162;refine(lC ax 175 N #[.pointer (some ⟨w.heap.size,0,none⟩)] (λ t=>rs.any λ r=>dP r t) U (by have:=HN.out;omega) HA.out (enters_of Tryz.func175 (by kernel_rfl) rfl) (λ k W' hk hb=>Rx w.heap.size N k rs W' (HRI.out.below hb) hk)).mono ?_;rintro e w2 ⟨rfl,hrow,hb2⟩;have HR:=hid hrow;have HB2:=hid (au HB.out hb2);clear hrow hb2)
 go_ret
 exact lq.row (w2:=w2) HR.out (lg _ _) (by have:=HN.out;omega) HB.out.size HB2.out
theorem Zt {D:Dom}(pv:Value)(A:Option Addr)(m c bx cb ax b:Nat)(l:List Sg)(W:iV)(rs:List (List Bool))(w:World)(h:Env w (· < w.heap.size) bx cb ax l W b)(hm:m=rs.length)(hr:oQ w D A c rs)(hal:∀i,i<rs.length->(rs.getD i []).length=b+W.loop.length)(h1:1<=rs.length) :
  Calls Tryz.prog 178 #[pv,.slice A m c,.pointer (some ⟨bx,0,none⟩)] w (lq w (b+W.loop.length) (kK (b+W.loop.length) (λ t=>dP (rs.getD 0 []) (fJ b W.loop.length (t+1))))):=by
 subst hm;have HE:=hid h;have wI:=hid hr;have uM:=hid hal;obtain⟨e0,e1,e3,e4⟩:=h.cells;obtain⟨N,hN⟩:∃N,N=b+W.loop.length:=⟨_,rfl⟩;have HN:=hid (show N<=100000 by rw[hN];exact h.hn);have wo:=hid hN;rw[<-hN]at e4⊢;have ex:ax<w.heap.size:=World.block_lt_of_cell? _ _ e4;have hlen:=hr.len.1;have hmf:∀(fn:Fn) (first cap:Array Value) (w:World),(Instr.makeFunc fn first cap).run Tryz.prog w = .ok (.func fn first cap) w := λ _ _ _ _=>rfl;clear h hN hr hal
 go_enter Tryz.func178,Tryz.ntmps178
 go_upto_region 1 with(fail)
 refine aC λ U hU=>?_;have HB:=hid (show Below w.heap.size w U by rw[hU];go_grown);have HP:=hid (show U.heap[w.heap.size]?=some (.cells #[.slice A rs.length c] 160 (0,0))by rw[hU];exact at_new _ _ _ (by simp));have HS:=hid (show U.heap.size=w.heap.size+1 by rw[hU];simp);have HRI:=hid (show RowsIn U aW (w.heap.size) N rs from⟨⟨A,c,HP.out,(wI.out.old.keep (Keeps.of_below HB.out λ _ h=>h)).mono λ _ _ _=>trivial⟩,λ i hi=>by rw[wo.out];exact uM.out i hi⟩);have u0:=(HB.out.cell (p:=⟨bx,0,none⟩) e1).trans e0;have u1:bx<U.heap.size:=Nat.lt_of_lt_of_le e1 HB.out.size;have HA:=hid ((HB.out.cell (p:=⟨ax,4,none⟩) ex).trans e4);clear hU e0 e1 e3 e4 ex
 go_wp2_with (go_at_call 162;refine(lC ax 179 N #[.pointer (some ⟨w.heap.size,0,none⟩),.pointer (some ⟨bx,0,none⟩)] (λ t=>dP (rs.getD 0 []) (fJ b W.loop.length (t+1))) U (by have:=HN.out;omega) HA.out (enters_of Tryz.func179 (by kernel_rfl) rfl) (λ k W' hk hb=>Ry w.heap.size bx cb ax b k l W rs W' (by rw[<-wo.out];exact(HRI.out.below hb)) ((HE.out.below HB.out).below hb) h1 (by rw[<-wo.out];exact hk))).mono ?_;rintro e w2 ⟨rfl,hrow,hb2⟩;have HR:=hid hrow;have HB2:=hid (au HB.out hb2);clear hrow hb2)
 go_ret
 exact lq.row (w2:=w2) HR.out (lg _ _) (by have:=HN.out;omega) HB.out.size HB2.out
theorem VR {D:Dom}(fb fo:Nat)(v:Int)(A:Option Addr)(m c bx cb ax b:Nat)(l:List Sg)(W:iV)(rs:List (List Bool))(w:World)(h:Env w (· < w.heap.size) bx cb ax l W b)(hm:m=rs.length)(hr:oQ w D A c rs)(hal:∀i,i<rs.length->(rs.getD i []).length=b+W.loop.length)(h1:1<=rs.length)(hf2:w.cell? ⟨fb,fo+2,none⟩=some (.int .i64 v)) :
  Calls Tryz.prog 191 #[.pointer (some ⟨fb,fo,none⟩),.slice A m c,.pointer (some ⟨bx,0,none⟩)] w (lq w (b+W.loop.length) (kK (b+W.loop.length) (λ t=>(decide (t=0)&&decide (v=1)) || (decide (0<t)&&dP (rs.getD 0 []) (t-1))))):=by
 subst hm;have HE:=hid h;have wI:=hid hr;have uM:=hid hal;obtain⟨e0,e1,e3,e4⟩:=h.cells;obtain⟨N,hN⟩:∃N,N=b+W.loop.length:=⟨_,rfl⟩;have HN:=hid (show N<=100000 by rw[hN];exact h.hn);have wo:=hid hN;rw[<-hN]at e4⊢;have ex:ax<w.heap.size:=World.block_lt_of_cell? _ _ e4;have hlen:=hr.len.1;have hmf:∀(fn:Fn) (first cap:Array Value) (w:World),(Instr.makeFunc fn first cap).run Tryz.prog w = .ok (.func fn first cap) w := λ _ _ _ _=>rfl;have HF2:=hid hf2;clear hf2;clear h hN hr hal
 go_enter Tryz.func191,Tryz.ntmps191
 go_upto_region 1 with(fail)
 refine aC λ U hU=>?_;have HB:=hid (show Below w.heap.size w U by rw[hU];go_grown);have HP:=hid (show U.heap[w.heap.size+1]?=some (.cells #[.slice A rs.length c] 160 (0,0))by rw[hU];exact at_new _ _ _ (by simp));have HFX:=hid (show U.heap[w.heap.size]?=some (.cells #[.pointer (some ⟨fb,fo,none⟩)] 67 (0,0))by rw[hU,aQ _ _ _ (by simp)];exact at_new _ _ _ rfl);have HS:=hid (show U.heap.size=w.heap.size+2 by rw[hU];simp);have HRI:=hid (show RowsIn U aW (w.heap.size+1) N rs from⟨⟨A,c,HP.out,(wI.out.old.keep (Keeps.of_below HB.out λ _ h=>h)).mono λ _ _ _=>trivial⟩,λ i hi=>by rw[wo.out];exact uM.out i hi⟩);have u0:=(HB.out.cell (p:=⟨bx,0,none⟩) e1).trans e0
 have u1:bx<U.heap.size:=Nat.lt_of_lt_of_le e1 HB.out.size;have HA:=hid ((HB.out.cell (p:=⟨ax,4,none⟩) ex).trans e4);clear hU e0 e1 e3 e4 ex
 go_wp2_with (go_at_call 162;refine(lC ax 192 N #[.pointer (some ⟨w.heap.size,0,none⟩),.pointer (some ⟨w.heap.size+1,0,none⟩)] (λ t=>(decide (t=0)&&decide (v=1)) || (decide (0<t)&&dP (rs.getD 0 []) (t-1))) U (by have:=HN.out;omega) HA.out (enters_of Tryz.func192 (by kernel_rfl) rfl) (λ k W' hk hb=>NT w.heap.size fb fo (w.heap.size+1) N k v rs W' (HRI.out.below hb) ((hb.cell (p:=⟨w.heap.size,0,none⟩) (lt_of_block HFX.out)).trans (aj HFX.out (i:=0) rfl)) ((hb.cell (p:=⟨fb,fo+2,none⟩) (Nat.lt_of_lt_of_le (World.block_lt_of_cell? _ _ HF2.out) HB.out.size)).trans ((HB.out.cell (p:=⟨fb,fo+2,none⟩) (World.block_lt_of_cell? _ _ HF2.out)).trans HF2.out)) h1 hk)).mono ?_;rintro e w2 ⟨rfl,hrow,hb2⟩;have HR:=hid hrow;have HB2:=hid (au HB.out hb2);clear hrow hb2)
 go_ret
 exact lq.row (w2:=w2) HR.out (lg _ _) (by have:=HN.out;omega) HB.out.size HB2.out
end Go.Proofs.YtdpbgcmfeajigaaGreatDoor
namespace Go.Proofs.YtdpbgcmfeajigaaGreatDoor
open Go.RowKit Go.Shelf
attribute [local go_sem] ak run_store_func Oper.semAt_some
def iw (l:List Sg)(W:iV)(t:Nat)(n:ByteArray)(v:Int):Bool:=gy l (aP W t) (iO l n).toNat==v
theorem DR (W:iV)(hL:0<W.loop.length):Per (aP W) W.stem.length W.loop.length:=by
 intro t ht;unfold aP;rw[if_neg (by omega),if_neg (by omega),show t+W.loop.length-W.stem.length=t-W.stem.length+W.loop.length by omega,Nat.add_mod_right]
theorem FV (bx cb ax ib fx fb fo b k i:Nat)(v x:Int)(l:List Sg)(W:iV)(w:World)(h:Env w (· < w.heap.size) bx cb ax l W b)(hi0:w.cell? ⟨ib,0,none⟩=some (.int .i64 (i:Int)))(hil:i<l.length)
  (hf0:w.cell? ⟨fx,0,none⟩=some (.pointer (some ⟨fb,fo,none⟩))) (hf2:w.cell? ⟨fb,fo+2,none⟩=some (.int .i64 v)) (hk:k<b+W.loop.length) (hx:gy l (aP W k) i=x) :
  Calls Tryz.prog 167 #[.int .i64 (k:Int),.pointer (some ⟨bx,0,none⟩),.pointer (some ⟨ib,0,none⟩),.pointer (some ⟨fx,0,none⟩)] w λ e w'=>e = .returned (.bool (x==v))/\Below w.heap.size w w':=by
 obtain⟨e0,e1,e3,e4⟩:=h.cells;have i1:ib<w.heap.size:=World.block_lt_of_cell? _ _ hi0;have f1:fx<w.heap.size:=World.block_lt_of_cell? _ _ hf0;have f2:fb<w.heap.size:=World.block_lt_of_cell? _ _ hf2
 have HC:Hid (∀W':World,Below w.heap.size w W'->Calls Tryz.prog 168 #[.pointer (some ⟨ax,0,none⟩),.int .i64 (k:Int),.int .i64 (i:Int)] W' λ e w2=>e = .returned (.int .i64 x)/\Below w.heap.size w w2):=hid λ W' hb=>by
  obtain⟨yP,yX,Av,cv,vals,h1,h2,h3,h4,h5⟩:=h.axis;have hpl:=lF (b:=W.stem.length) (t:=k) h.hL;have h6:=h5 _ hpl;have hnn:=h.hn;have c1:=(hb.block _ (lt_of_block h1)).trans h1
  exact(QE ax W.stem.length W.loop.length vals.length k i Av cv vals x W' (h3.keep (Keeps.of_below hb λ _ h=>h)) rfl h4 h.hL (by have:=h.hs;omega) (by omega) (aj c1 (i:=1) rfl) (aj c1 (i:=2) rfl) (by rw[h6.1];exact hil)
   (by rw[h6.2 i hil,(DR W h.hL).place h.hL];exact hx)).mono λ e w2 h2=>⟨h2.1,au hb h2.2⟩
 have aI:Hid (∀W':World,Below w.heap.size w W'->W'.cell? ⟨bx,0,none⟩=some (.pointer (some ⟨ax,0,none⟩))/\W'.cell? ⟨ib,0,none⟩=some (.int .i64 (i:Int))/\W'.cell? ⟨fx,0,none⟩=some (.pointer (some ⟨fb,fo,none⟩))/\W'.cell? ⟨fb,fo+2,none⟩=some (.int .i64 v)):=hid λ W' hb =>
  ⟨(hb.cell (p:=⟨bx,0,none⟩) e1).trans e0,(hb.cell (p:=⟨ib,0,none⟩) i1).trans hi0,(hb.cell (p:=⟨fx,0,none⟩) f1).trans hf0,(hb.cell (p:=⟨fb,fo+2,none⟩) f2).trans hf2⟩
 clear h hi0 hf0 hf2 hk e0 e3 e4 hx hil;have HI1:=hid (show Below w.heap.size w w.drew from(Below.refl _ _).drew);have HI2:=hid (show∀i,Below w.heap.size w (w.drewN i)from λ i=>(aU.n w i).below _);obtain⟨s0,s1,s2,s3⟩:=aI.out w (Below.refl _ _)
 go_enter Tryz.func167,Tryz.ntmps167
 go_upto_region 1 with(fail)
 go_region_held3 (λ W':World=>W'.cell? ⟨bx,0,none⟩=some (.pointer (some ⟨ax,0,none⟩))/\W'.cell? ⟨ib,0,none⟩=some (.int .i64 (i:Int))/\W'.cell? ⟨fx,0,none⟩=some (.pointer (some ⟨fb,fo,none⟩))/\W'.cell? ⟨fb,fo+2,none⟩=some (.int .i64 v))
  (first|(with_reducible exact aI.out _ hI)|(go_keep;done))
  ((go_at_call 168;(with_reducible refine(HC.out _ (by first|exact HI1.out|exact HI2.out _)).mono ?_);rintro e V ⟨rfl,hI⟩))
 all_goals
  have iD:=hid hI;go_wp2_with fail
  go_ret
  exact⟨rfl,iD.out⟩
theorem Zo {D:Dom}(fb fo:Nat)(nm:ByteArray)(v:Int)(A:Option Addr)(m c bx cb ax b:Nat)(l:List Sg)(W:iV)(w:World)(h:Env w (· < w.heap.size) bx cb ax l W b)(hf1:w.cell? ⟨fb,fo+1,none⟩=some (.string nm))(hf2:w.cell? ⟨fb,fo+2,none⟩=some (.int .i64 v))(hfd:fK l nm<l.length) :
  Calls Tryz.prog 166 #[.pointer (some ⟨fb,fo,none⟩),.slice A m c,.pointer (some ⟨bx,0,none⟩)] w (lq w (b+W.loop.length) (kK (b+W.loop.length) λ t=>iw l W t nm v)):=by
 have HE:=hid h;have Qu:=hid hf1;have HF2:=hid hf2;obtain⟨e0,e1,e3,e4⟩:=h.cells;obtain⟨yP,yX,Av,cv,vals,a1,a2,a3,a4,a5⟩:=h.axis;have q0:=aj a1 (i:=0) rfl;have hsl:=a2.len.1;have HSG:=hid a2;obtain⟨N,hN⟩:∃N,N=b+W.loop.length:=⟨_,rfl⟩;have HN:=hid (show N<=100000 by rw[hN];exact h.hn);have wo:=hid hN;have HFD:=hid (show iO l nm=((fK l nm:Nat):Int)by unfold iO;rw[if_pos hfd]);have wH:=hid hfd;rw[<-hN]at e4⊢;have ex:ax<w.heap.size:=World.block_lt_of_cell? _ _ e4;have f2:fb<w.heap.size:=World.block_lt_of_cell? _ _ hf2;obtain⟨i,hi⟩:∃i,fK l nm=i:=⟨_,rfl⟩;have HU:=hid (show(λ t=>iw l W t nm v) = λ t=>gy l (aP W t) i==v by funext t;unfold iw;rw[HFD.out,hi];rfl);rw[hi]at HFD wH
 have hmf:∀(fn:Fn) (first cap:Array Value) (w:World),(Instr.makeFunc fn first cap).run Tryz.prog w = .ok (.func fn first cap) w := λ _ _ _ _=>rfl;clear h hN a1 a2 a3 a4 a5 hf1 hf2 hfd hi
 go_enter Tryz.func166,Tryz.ntmps166
 go_upto_region 1 with(fail)
 refine aC λ U hU=>?_;have HB:=hid (show Below w.heap.size w U by rw[hU];go_grown);have HFX:=hid (show U.heap[w.heap.size]?=some (.cells #[.pointer (some ⟨fb,fo,none⟩)] 67 (0,0))by rw[hU];exact at_new _ _ _ rfl);have HS:=hid (show U.heap.size=w.heap.size+1 by rw[hU];simp)
 have HC:Hid (∀W':World,Below U.heap.size U W'->Calls Tryz.prog 103 #[.slice yP l.length yX,.string nm] W' λ e w2=>e = .returned (.int .i64 (i:Int))/\Below U.heap.size U w2/\Below W'.heap.size W' w2):=hid λ W' hb=>by
  rw[<-HFD.out];exact(uH l nm yP yX l.length W' rfl (HSG.out.any (au HB.out hb))).mono λ e w2 h2=>⟨h2.1,au hb h2.2,h2.2⟩
 have aI:Hid (∀W':World,Below U.heap.size U W'->W'.cell? ⟨bx,0,none⟩=some (.pointer (some ⟨ax,0,none⟩))/\W'.cell? ⟨ax,0,none⟩=some (.slice yP l.length yX)/\W'.cell? ⟨w.heap.size,0,none⟩=some (.pointer (some ⟨fb,fo,none⟩))/\W'.cell? ⟨fb,fo+1,none⟩=some (.string nm)):=hid λ W' hb =>
  have hb':=au HB.out hb
  ⟨(hb'.cell (p:=⟨bx,0,none⟩) e1).trans e0,(hb'.cell (p:=⟨ax,0,none⟩) ex).trans q0,aj ((hb.block _ (lt_of_block HFX.out)).trans HFX.out) (i:=0) rfl,(hb'.cell (p:=⟨fb,fo+1,none⟩) f2).trans Qu.out⟩
 have HA:=hid (show∀W',Below U.heap.size U W'->W'.cell? ⟨ax,4,none⟩=some (.int .i64 (N:Int))from λ W' hb=>((au HB.out hb).cell (p:=⟨ax,4,none⟩) ex).trans e4);have kG:=hid e1;clear hU e0 e3 e4 q0 e1 ex f2;have HI1:=hid (show Below U.heap.size U U.drew from(Below.refl _ _).drew);have HI2:=hid (show∀i,Below U.heap.size U (U.drewN i)from λ i=>(aU.n U i).below _);obtain⟨s0,s1,s2,s3⟩:=aI.out U (Below.refl _ _)
 go_region_held3 (λ W':World=>W'.cell? ⟨bx,0,none⟩=some (.pointer (some ⟨ax,0,none⟩))/\W'.cell? ⟨ax,0,none⟩=some (.slice yP l.length yX)/\W'.cell? ⟨w.heap.size,0,none⟩=some (.pointer (some ⟨fb,fo,none⟩))/\W'.cell? ⟨fb,fo+1,none⟩=some (.string nm))
  (first|(with_reducible exact aI.out _ hI)|exact aI.out _ (hI.alloc hI.size _)|exact aI.out _ ((hI.alloc hI.size _).setCell hI.size _)|exact aI.out _ (hI.setCell (Nat.le_refl _) _)|(go_keep;done))
  ((go_at_call 103;(with_reducible refine(HC.out _ (by first|exact HI1.out|exact HI2.out _|go_grown)).mono ?_);rintro e V ⟨rfl,hI,hJ⟩;(try(have z:=(hJ.block U.heap.size (by simp)).trans (show((U.alloc (.cells #[.int .i64 0] 3)).drew).heap[U.heap.size]?=some (.cells #[.int .i64 0] 3 (0,0))from at_new U _ _ rfl);have z1:=aA z (i:=0);have z2:=lt_of_block z;have z3:=aj z (i:=0) rfl;have HZ:=hid z;clear z))))
 ·obtain⟨ib,Rn⟩:∃ib,ib=V.heap.size:=⟨_,rfl⟩
  obtain⟨V1,hV1⟩:∃V1,V1=V.alloc (.cells #[.int .i64 (i:Int)] 3):=⟨_,rfl⟩;have hib:V1.heap[ib]?=some (.cells #[.int .i64 (i:Int)] 3 (0,0)):=by rw[hV1];exact at_new _ _ _ Rn
  have hb1:Below U.heap.size U V1:=by rw[hV1];exact hI.alloc hI.size _
  rw[<-hV1,<-Rn];clear Rn;have HIB:=hid hib;have HB1:=hid hb1;have aT:=hid (au HB.out hb1);clear hib hb1 hV1 s0 s1 s2 s3 hI;obtain⟨s0,s1,s2,s3⟩:=aI.out V1 HB1.out;have s4:bx<V1.heap.size:=Nat.lt_of_lt_of_le kG.out aT.out.size
  go_wp2_with (go_at_call 162;refine(lC ax 167 N #[.pointer (some ⟨bx,0,none⟩),.pointer (some ⟨ib,0,none⟩),.pointer (some ⟨w.heap.size,0,none⟩)] (λ t=>gy l (aP W t) i==v) V1 (by have:=HN.out;omega) (HA.out _ HB1.out) (enters_of Tryz.func167 (by kernel_rfl) rfl) (λ k W' hk hb=>FV bx cb ax ib w.heap.size fb fo b k i v (gy l (aP W k) i) l W W' ((HE.out.below aT.out).below hb) ((hb.cell (p:=⟨ib,0,none⟩) (lt_of_block HIB.out)).trans (aj HIB.out (i:=0) rfl)) wH.out ((hb.cell (p:=⟨w.heap.size,0,none⟩) (World.block_lt_of_cell? _ _ s2)).trans s2) (((au aT.out hb).cell (p:=⟨fb,fo+2,none⟩) (World.block_lt_of_cell? _ _ HF2.out)).trans HF2.out) (by rw[<-wo.out];exact hk) rfl)).mono ?_;rintro e w2 ⟨rfl,hrow,hb2⟩;have HR:=hid hrow;have HB2:=hid (au aT.out hb2);clear hrow hb2)
  go_ret
  rw[HU.out];exact lq.row (w2:=w2) HR.out (lg _ _) (by have:=HN.out;omega) aT.out.size HB2.out
 ·obtain⟨ib,Rn⟩:∃ib,ib=U.heap.size:=⟨_,rfl⟩
  obtain⟨V1,hV1⟩:∃V1,V1=V.setCell ⟨U.heap.size,0,none⟩ (.int .i64 (i:Int)):=⟨_,rfl⟩;have hib:V1.heap[ib]?=some (.cells #[.int .i64 (i:Int)] 3 (0,0)):=by rw[hV1,Rn,aB HZ.out];rfl
  have hb1:Below U.heap.size U V1:=by rw[hV1];exact hI.setCell (Nat.le_refl _) _
  rw[<-hV1,<-Rn];clear Rn z1 z2 z3 HZ;have HIB:=hid hib;have HB1:=hid hb1;have aT:=hid (au HB.out hb1);clear hib hb1 hV1 s0 s1 s2 s3 hI;obtain⟨s0,s1,s2,s3⟩:=aI.out V1 HB1.out;have s4:bx<V1.heap.size:=Nat.lt_of_lt_of_le kG.out aT.out.size
  go_wp2_with (go_at_call 162;refine(lC ax 167 N #[.pointer (some ⟨bx,0,none⟩),.pointer (some ⟨ib,0,none⟩),.pointer (some ⟨w.heap.size,0,none⟩)] (λ t=>gy l (aP W t) i==v) V1 (by have:=HN.out;omega) (HA.out _ HB1.out) (enters_of Tryz.func167 (by kernel_rfl) rfl) (λ k W' hk hb=>FV bx cb ax ib w.heap.size fb fo b k i v (gy l (aP W k) i) l W W' ((HE.out.below aT.out).below hb) ((hb.cell (p:=⟨ib,0,none⟩) (lt_of_block HIB.out)).trans (aj HIB.out (i:=0) rfl)) wH.out ((hb.cell (p:=⟨w.heap.size,0,none⟩) (World.block_lt_of_cell? _ _ s2)).trans s2) (((au aT.out hb).cell (p:=⟨fb,fo+2,none⟩) (World.block_lt_of_cell? _ _ HF2.out)).trans HF2.out) (by rw[<-wo.out];exact hk) rfl)).mono ?_;rintro e w2 ⟨rfl,hrow,hb2⟩;have HR:=hid hrow;have HB2:=hid (au aT.out hb2);clear hrow hb2)
  go_ret
  rw[HU.out];exact lq.row (w2:=w2) HR.out (lg _ _) (by have:=HN.out;omega) aT.out.size HB2.out
end Go.Proofs.YtdpbgcmfeajigaaGreatDoor
namespace Go.Proofs.YtdpbgcmfeajigaaGreatDoor
open Go.RowKit Go.Shelf
attribute [local go_sem] ak run_store_func Oper.semAt_some
theorem gU.cell {w:World}{b j:Nat}{bs:List Bool}(h:gU w b bs)(hj:j<bs.length):w.cell? ⟨b,j,none⟩=some (.bool (bs.getD j false)):=aj h (i:=j) (by simp[List.getD,hj])
theorem gU.set {w:World}{b j:Nat}{bs:List Bool}(h:gU w b bs)(x:Bool):gU (w.setCell ⟨b,j,none⟩ (.bool x)) b (bs.set j x):=by
 unfold gU;rw[aB h];simp[List.map_set]
theorem gU.below {w w':World}{b:Nat}{bs:List Bool}(h:gU w b bs)(hb:Below w.heap.size w w'):gU w' b bs:=(hb.block _ (lt_of_block h)).trans h
theorem WZ (n:Nat):kK n (λ _=>true)=List.replicate n true:=by
 unfold kK;apply List.ext_getElem?;intro j
 by_cases h:j<n <;> simp[h,List.getElem?_replicate]
theorem H8 (k:Int)(w:World):Calls Tryz.prog 214 #[.int .i64 k] w λ e w'=>e = .returned (.bool true)/\Below w.heap.size w w':=by
 go_enter Tryz.func214,Tryz.ntmps214
 go_wp2_with fail
 go_ret
 exact⟨rfl,by go_grown⟩
theorem Xa {D:Dom}(ax b L n:Nat)(u v:List Bool)(A1 A2:Option Addr)(m1 m2 c1 c2:Nat)(w:World)(hnb:n=b+L)(hL:0<L)(hn:n<=100000)(h3:w.cell? ⟨ax,3,none⟩=some (.int .i64 (b:Int)))(h4:w.cell? ⟨ax,4,none⟩=some (.int .i64 (n:Int)))
  (h1:RdB w D A1 c1 u) (h2:RdB w D A2 c2 v) (hm1:m1=u.length) (hm2:m2=v.length) (hu:u.length=n) (hv:v.length=n) :
  Calls Tryz.prog 181 #[.pointer (some ⟨ax,0,none⟩),.slice A1 m1 c1,.slice A2 m2 c2] w λ e w'=>e = .returned (.slice (some ⟨w.heap.size,0,none⟩) n n)/\gU w' w.heap.size (vN b L u v)/\Below w.heap.size w w':=by
 have hal:ax<w.heap.size:=World.block_lt_of_cell? _ _ h3;have lW:=hid hnb;have HL:=hid hL;have HU:=hid h1;have HV:=hid h2;have HUL:=hid (hm1.trans hu);have X8:=hid (hm2.trans hv);have HUN:=hid hu;have HVN:=hid hv;have Dk:=hid h3;have zN:=hid h4;have hlen1:n<=100000:=hn;have wn:IntKind.i64.wrap ((n:Int)-1)=(n:Int)-1:=IntWalk.i64_in _ (by omega);have w2n:IntKind.i64.wrap (2*(n:Int))=2*(n:Int):=IntWalk.i64_in _ (by omega);have dn:((n:Int)==0)=false:=cu (by omega);have dn':¬(n:Int)=0:=by omega
 have dn2:¬n=0:=by omega
 rw[hm1.trans hu,hm2.trans hv];have hmk:=Gy n (by omega);clear hnb hL h1 h2 hm1 hm2 hu hv
 go_enter Tryz.func181,Tryz.ntmps181
 go_upto_region 2 with(fail)
 refine aC λ U hU=>?_;have HB:=hid (show Below w.heap.size w U by rw[hU];go_grown);have HR:=hid (show gU U w.heap.size (iF b L u v 0)by rw[hU,iF,<-lW.out];unfold gU;rw[<-qai];exact at_new _ _ _ rfl);have u4:=(HB.out.cell (p:=⟨ax,4,none⟩) hal).trans zN.out;have u5:ax<U.heap.size:=Nat.lt_of_lt_of_le hal HB.out.size;clear hU hmk h3 h4;go_wp2_with fail
 go_loopw [20] (λ r wr=>∃k:Nat,k<=2*n/\r = .int .i64 (k:Int)/\gU wr w.heap.size (iF b L u v k)/\Below w.heap.size w wr) (λ r _=>2*n-(intOf r).toNat)
 case atStart=>exact⟨0,Nat.zero_le _,rfl,HR.out,HB.out⟩
 case round =>
  obtain⟨k,hk,rfl,hr,hbl⟩:=hrel;have HRR:=hid hr;have bH:=hid hbl;clear hr hbl
  by_cases hlt:k<2*n
  ·have hii:(k:Int)<2*(n:Int):=by omega
   obtain⟨q,hq⟩:∃q,k % n=q:=⟨_,rfl⟩;have VI:q<n:=by rw[<-hq];exact Nat.mod_lt _ (by omega)
   have e1:(k:Int).tmod (n:Int)=(q:Int):=by rw[Int.tmod_eq_emod_of_nonneg (by omega),<-hq];rfl
   obtain⟨t,ht⟩:∃t,n-1-q=t:=⟨_,rfl⟩;have htl:t<n:=by omega
   have e2:(n:Int)-1-(q:Int)=(t:Int):=by omega
   have w3:IntKind.i64.wrap (t:Int)=(t:Int):=IntWalk.i64_in _ (by omega);have w4:IntKind.i64.wrap ((t:Int)+1)=(t:Int)+1:=IntWalk.i64_in _ (by omega);have w5:IntKind.i64.wrap (q:Int)=(q:Int):=IntWalk.i64_in _ (by omega);have w6:IntKind.i64.wrap ((k:Int)+1)=(k:Int)+1:=IntWalk.i64_in _ (by omega)
   have BJ:=hid (show iF b L u v (k+1)=(iF b L u v k).set t (v.getD t false || (u.getD t false&&(iF b L u v k).getD (fJ b L (t+1)) false))by
    rw[iF,uI,<-lW.out,hq,ht])
   have hpl:=lF (b:=b) (t:=t+1) HL.out;rw[<-lW.out]at hpl;obtain⟨p,hp⟩:∃p,fJ b L (t+1)=p:=⟨_,rfl⟩;rw[hp]at hpl BJ;have hkl:=jM b L u v k;obtain⟨bu,ou,x,rfl,_,hlu,HX,x0⟩:=(HU.out.old.keep (Keeps.of_below bH.out λ _ h=>h)).get (k:=t) (by rw[HUN.out];exact htl);obtain⟨bv,ov,y,rfl,_,hlv,HY,y0⟩:=(HV.out.old.keep (Keeps.of_below bH.out λ _ h=>h)).get (k:=t) (by rw[HVN.out];exact htl);have z0:=HRR.out.cell (j:=p) (by rw[hkl];rw[<-lW.out];exact hpl);obtain⟨z,hz⟩:∃z,(iF b L u v k).getD p false=z:=⟨_,rfl⟩;rw[HX.out,HY.out,hz]at BJ;rw[hz]at z0;have HZ0:=hid z0
   have HP:Hid (∀W':World,Below wr.heap.size wr W'->Calls Tryz.prog 68 #[.pointer (some ⟨ax,0,none⟩),.int .i64 ((t:Int)+1)] W' λ e w2=>e = .returned (.int .i64 (p:Int))/\Below wr.heap.size wr w2):=hid λ W' hb=>by
    have hbw:=bH.out.trans (hb.mono bH.out.size);have:=yF ax b L n (t+1) W' lW.out HL.out (by omega) (by omega) ((hbw.cell (p:=⟨ax,3,none⟩) hal).trans Dk.out) ((hbw.cell (p:=⟨ax,4,none⟩) hal).trans zN.out);rw[hp]at this;exact this.mono λ e w2 h2=>⟨h2.1,au hb h2.2⟩
   have a4:=(bH.out.cell (p:=⟨ax,4,none⟩) hal).trans zN.out;have a5:ax<wr.heap.size:=Nat.lt_of_lt_of_le hal bH.out.size;have r1:=aA HRR.out (i:=t);have r2:=lt_of_block HRR.out;have r3:=HRR.out.cell (j:=t) (by rw[hkl,<-lW.out];exact htl);have htn:(t:Int)<(n:Int):=by omega
   have ht0:(0:Int)<=(t:Int):=by omega
   have hpn:(p:Int)<(n:Int):=by omega
   have hp0:(0:Int)<=(p:Int):=by omega
   have hkn:k<2*n:=hlt;clear hp hz hq ht hkl HX HY hpl z0 VI htl
   cases y with
   | true =>
    go_upto_region 5 with(fail)
    go_quiet (fail)
    go_wp2_with fail
    go_roundw
    case rel=>exact⟨k+1,by omega,by go_num,by rw[BJ.out];exact gU.set (by first|exact HRR.out|exact HRR.out.below (by go_grown)) _,by first|exact bH.out.setCell (Nat.le_refl _) _|exact(below_drewN bH.out _).setCell (Nat.le_refl _) _|(rw[dW.out];exact bH.out)⟩
    case measure=>simp[intOf];omega
   | false =>
    cases x with
    | false =>
     go_upto_region 5 with(fail)
     go_quiet (fail)
     go_wp2_with fail
     go_roundw
     case rel=>exact⟨k+1,by omega,by go_num,by rw[BJ.out];exact gU.set (by first|exact HRR.out|exact HRR.out.below (by go_grown)) _,by first|exact bH.out.setCell (Nat.le_refl _) _|exact(below_drewN bH.out _).setCell (Nat.le_refl _) _|(rw[dW.out];exact bH.out)⟩
     case measure=>simp[intOf];omega
    | true =>
     go_upto_region 5 with(fail)
     go_quiet (fail)
     go_wp2_with (go_at_call 68;(with_reducible refine(HP.out _ (by first|exact below_drewN (Below.refl _ _) _|go_grown)).mono ?_);rintro e V ⟨rfl,hI⟩;have HI:=hid hI;have LX:=hid (HRR.out.below hI);have v1:=aA LX.out (i:=t);have v2:=lt_of_block LX.out;have v3:=(hI.cell (p:=⟨w.heap.size,t,none⟩) r2).trans r3;have v4:=(hI.cell (p:=⟨w.heap.size,p,none⟩) r2).trans HZ0.out)
     go_roundw
     case rel=>exact⟨k+1,by omega,by go_num,by rw[BJ.out];exact LX.out.set _,(bH.out.trans (HI.out.mono bH.out.size)).setCell (Nat.le_refl _) _⟩
     case measure=>simp[intOf];omega
  ·have hii:¬(k:Int)<2*(n:Int):=by omega
   have hkn:k=2*n:=by omega
   go_wp2_with fail
   go_ret
   exact⟨rfl,by unfold vN;rw[<-lW.out,<-hkn];exact HRR.out,bH.out⟩
theorem OH {D:Dom}(ax b L n:Nat)(u v:List Bool)(A1 A2:Option Addr)(m1 m2 c1 c2:Nat)(w:World)(hnb:n=b+L)(hL:0<L)(hn:n<=100000)(h3:w.cell? ⟨ax,3,none⟩=some (.int .i64 (b:Int)))(h4:w.cell? ⟨ax,4,none⟩=some (.int .i64 (n:Int)))
  (h1:RdB w D A1 c1 u) (h2:RdB w D A2 c2 v) (hm1:m1=u.length) (hm2:m2=v.length) (hu:u.length=n) (hv:v.length=n) :
  Calls Tryz.prog 183 #[.pointer (some ⟨ax,0,none⟩),.slice A1 m1 c1,.slice A2 m2 c2] w λ e w'=>e = .returned (.slice (some ⟨w.heap.size,0,none⟩) n n)/\gU w' w.heap.size (pz b L u v)/\Below w.heap.size w w':=by
 have hal:ax<w.heap.size:=World.block_lt_of_cell? _ _ h3;have lW:=hid hnb;have HL:=hid hL;have HU:=hid h1;have HV:=hid h2;have HUL:=hid (hm1.trans hu);have X8:=hid (hm2.trans hv);have HUN:=hid hu;have HVN:=hid hv;have Dk:=hid h3;have zN:=hid h4;have hlen1:n<=100000:=hn;have wn:IntKind.i64.wrap ((n:Int)-1)=(n:Int)-1:=IntWalk.i64_in _ (by omega);have w2n:IntKind.i64.wrap (2*(n:Int))=2*(n:Int):=IntWalk.i64_in _ (by omega);have dn:((n:Int)==0)=false:=cu (by omega);have dn':¬(n:Int)=0:=by omega
 have dn2:¬n=0:=by omega
 rw[hm1.trans hu,hm2.trans hv];clear hnb hL h1 h2 hm1 hm2 hu hv
 go_enter Tryz.func183,Tryz.ntmps183
 go_upto_region 2 with(go_at_call 162;refine(lC ax 214 n #[] (λ _=>true) w (by omega) zN.out (enters_of Tryz.func214 (by kernel_rfl) rfl) (λ k W' hk hb=>H8 k W')).mono ?_;rintro e U0 ⟨rfl,hrow,hb2⟩;have wu:=hid hrow;have Xf:=hid hb2;clear hrow hb2)
 refine aC λ U hU=>?_;have HB:=hid (show Below w.heap.size w U by rw[hU];exact Xf.out);have HR:=hid (show gU U w.heap.size (iT b L u v 0)by rw[hU,iT,<-lW.out,<-WZ];exact wu.out);have u4:=(HB.out.cell (p:=⟨ax,4,none⟩) hal).trans zN.out;have u5:ax<U.heap.size:=Nat.lt_of_lt_of_le hal HB.out.size;clear hU h3 h4 wu Xf;go_wp2_with fail
 go_loopw [17] (λ r wr=>∃k:Nat,k<=2*n/\r = .int .i64 (k:Int)/\gU wr w.heap.size (iT b L u v k)/\Below w.heap.size w wr) (λ r _=>2*n-(intOf r).toNat)
 case atStart=>exact⟨0,Nat.zero_le _,rfl,HR.out,HB.out⟩
 case round =>
  obtain⟨k,hk,rfl,hr,hbl⟩:=hrel;have HRR:=hid hr;have bH:=hid hbl;clear hr hbl
  by_cases hlt:k<2*n
  ·have hii:(k:Int)<2*(n:Int):=by omega
   obtain⟨q,hq⟩:∃q,k % n=q:=⟨_,rfl⟩;have VI:q<n:=by rw[<-hq];exact Nat.mod_lt _ (by omega)
   have e1:(k:Int).tmod (n:Int)=(q:Int):=by rw[Int.tmod_eq_emod_of_nonneg (by omega),<-hq];rfl
   obtain⟨t,ht⟩:∃t,n-1-q=t:=⟨_,rfl⟩;have htl:t<n:=by omega
   have e2:(n:Int)-1-(q:Int)=(t:Int):=by omega
   have w3:IntKind.i64.wrap (t:Int)=(t:Int):=IntWalk.i64_in _ (by omega);have w4:IntKind.i64.wrap ((t:Int)+1)=(t:Int)+1:=IntWalk.i64_in _ (by omega);have w5:IntKind.i64.wrap (q:Int)=(q:Int):=IntWalk.i64_in _ (by omega);have w6:IntKind.i64.wrap ((k:Int)+1)=(k:Int)+1:=IntWalk.i64_in _ (by omega)
   have BJ:=hid (show iT b L u v (k+1)=(iT b L u v k).set t (v.getD t false&&(u.getD t false || (iT b L u v k).getD (fJ b L (t+1)) false))by
    rw[iT,vF,<-lW.out,hq,ht])
   have hpl:=lF (b:=b) (t:=t+1) HL.out;rw[<-lW.out]at hpl;obtain⟨p,hp⟩:∃p,fJ b L (t+1)=p:=⟨_,rfl⟩;rw[hp]at hpl BJ;have hkl:=nM b L u v k;obtain⟨bu,ou,x,rfl,_,hlu,HX,x0⟩:=(HU.out.old.keep (Keeps.of_below bH.out λ _ h=>h)).get (k:=t) (by rw[HUN.out];exact htl);obtain⟨bv,ov,y,rfl,_,hlv,HY,y0⟩:=(HV.out.old.keep (Keeps.of_below bH.out λ _ h=>h)).get (k:=t) (by rw[HVN.out];exact htl);have z0:=HRR.out.cell (j:=p) (by rw[hkl];rw[<-lW.out];exact hpl);obtain⟨z,hz⟩:∃z,(iT b L u v k).getD p false=z:=⟨_,rfl⟩;rw[HX.out,HY.out,hz]at BJ;rw[hz]at z0;have HZ0:=hid z0
   have HP:Hid (∀W':World,Below wr.heap.size wr W'->Calls Tryz.prog 68 #[.pointer (some ⟨ax,0,none⟩),.int .i64 ((t:Int)+1)] W' λ e w2=>e = .returned (.int .i64 (p:Int))/\Below wr.heap.size wr w2):=hid λ W' hb=>by
    have hbw:=bH.out.trans (hb.mono bH.out.size);have:=yF ax b L n (t+1) W' lW.out HL.out (by omega) (by omega) ((hbw.cell (p:=⟨ax,3,none⟩) hal).trans Dk.out) ((hbw.cell (p:=⟨ax,4,none⟩) hal).trans zN.out);rw[hp]at this;exact this.mono λ e w2 h2=>⟨h2.1,au hb h2.2⟩
   have a4:=(bH.out.cell (p:=⟨ax,4,none⟩) hal).trans zN.out;have a5:ax<wr.heap.size:=Nat.lt_of_lt_of_le hal bH.out.size;have r1:=aA HRR.out (i:=t);have r2:=lt_of_block HRR.out;have r3:=HRR.out.cell (j:=t) (by rw[hkl,<-lW.out];exact htl);have htn:(t:Int)<(n:Int):=by omega
   have ht0:(0:Int)<=(t:Int):=by omega
   have hpn:(p:Int)<(n:Int):=by omega
   have hp0:(0:Int)<=(p:Int):=by omega
   have hkn:k<2*n:=hlt;clear hp hz hq ht hkl HX HY hpl z0 VI htl
   cases y with
   | false =>
    go_upto_region 5 with(fail)
    go_quiet (fail)
    go_wp2_with fail
    go_roundw
    case rel=>exact⟨k+1,by omega,by go_num,by rw[BJ.out];exact gU.set (by first|exact HRR.out|exact HRR.out.below (by go_grown)) _,by first|exact bH.out.setCell (Nat.le_refl _) _|exact(below_drewN bH.out _).setCell (Nat.le_refl _) _|(rw[dW.out];exact bH.out)⟩
    case measure=>simp[intOf];omega
   | true =>
    cases x with
    | true =>
     go_upto_region 5 with(fail)
     go_quiet (fail)
     go_wp2_with fail
     go_roundw
     case rel=>exact⟨k+1,by omega,by go_num,by rw[BJ.out];exact gU.set (by first|exact HRR.out|exact HRR.out.below (by go_grown)) _,by first|exact bH.out.setCell (Nat.le_refl _) _|exact(below_drewN bH.out _).setCell (Nat.le_refl _) _|(rw[dW.out];exact bH.out)⟩
     case measure=>simp[intOf];omega
    | false =>
     go_upto_region 5 with(fail)
     go_quiet (fail)
     go_wp2_with (go_at_call 68;(with_reducible refine(HP.out _ (by first|exact below_drewN (Below.refl _ _) _|go_grown)).mono ?_);rintro e V ⟨rfl,hI⟩;have HI:=hid hI;have LX:=hid (HRR.out.below hI);have v1:=aA LX.out (i:=t);have v2:=lt_of_block LX.out;have v3:=(hI.cell (p:=⟨w.heap.size,t,none⟩) r2).trans r3;have v4:=(hI.cell (p:=⟨w.heap.size,p,none⟩) r2).trans HZ0.out)
     go_roundw
     case rel=>exact⟨k+1,by omega,by go_num,by rw[BJ.out];exact LX.out.set _,(bH.out.trans (HI.out.mono bH.out.size)).setCell (Nat.le_refl _) _⟩
     case measure=>simp[intOf];omega
  ·have hii:¬(k:Int)<2*(n:Int):=by omega
   have hkn:k=2*n:=by omega
   go_wp2_with fail
   go_ret
   exact⟨rfl,by unfold pz;rw[<-lW.out,<-hkn];exact HRR.out,bH.out⟩
theorem Zu {D:Dom}(pv:Value)(A:Option Addr)(m c bx cb ax b:Nat)(l:List Sg)(W:iV)(rs:List (List Bool))(w:World)(h:Env w (· < w.heap.size) bx cb ax l W b)(hm:m=rs.length)(hr:oQ w D A c rs)(hal:∀i,i<rs.length->(rs.getD i []).length=b+W.loop.length)(h1:2<=rs.length) :
  Calls Tryz.prog 180 #[pv,.slice A m c,.pointer (some ⟨bx,0,none⟩)] w (lq w (b+W.loop.length) (vN b W.loop.length (rs.getD 0 []) (rs.getD 1 []))):=by
 subst hm;obtain⟨e0,e1,e3,e4⟩:=h.cells;obtain⟨N,hN⟩:∃N,N=b+W.loop.length:=⟨_,rfl⟩;have HN:=hid (show N<=100000 by rw[hN];exact h.hn);have wo:=hid hN;have HL:=hid h.hL;rw[<-hN]at e4⊢;have ex:ax<w.heap.size:=World.block_lt_of_cell? _ _ e4;have hlen:=hr.len.1;obtain⟨pb,o,A0,c0,r0,rfl,_,hlb,HX0,hr0,x0⟩:=hr.get (k:=0) (by omega);obtain⟨pb',o',A1,c1,r1,he,_,_,uK,hr1,x1⟩:=hr.get (k:=1) (by omega);simp only[Option.some.injEq,Addr.mk.injEq,and_true]at he;obtain⟨rfl,rfl⟩:=he;have l0:r0.length=N:=by rw[<-HX0.out,hN];exact hal 0 (by omega)
 have l1:r1.length=N:=by rw[<-uK.out,hN];exact hal 1 (by omega)
 rw[Nat.add_zero]at x0;rw[HX0.out,uK.out]
 have HC:Hid (∀W':World,Below w.heap.size w W'->Calls Tryz.prog 181 #[.pointer (some ⟨ax,0,none⟩),.slice A0 r0.length c0,.slice A1 r1.length c1] W' λ e w'=>∃k,w.heap.size<=k/\e = .returned (.slice (some ⟨k,0,none⟩) N N)/\gU w' k (vN b W.loop.length r0 r1)/\Below w.heap.size w w'):=hid λ W' hb =>
  (Xa ax b W.loop.length N r0 r1 A0 A1 r0.length r1.length c0 c1 W' hN HL.out (by have:=HN.out;omega) ((hb.cell (p:=⟨ax,3,none⟩) ex).trans e3) ((hb.cell (p:=⟨ax,4,none⟩) ex).trans e4) ((hr0.old.keep (Keeps.of_below hb λ _ h=>h)).mono (E:=aW) λ _ _ _=>trivial) ((hr1.old.keep (Keeps.of_below hb λ _ h=>h)).mono (E:=aW) λ _ _ _=>trivial) rfl rfl l0 l1).mono λ e w' h'=>⟨W'.heap.size,hb.size,h'.1,h'.2.1,au hb h'.2.2⟩
 have d0:(0:Int)<(rs.length:Int):=by omega
 have d1:(1:Int)<(rs.length:Int):=by omega
 have d2:0<rs.length:=by omega
 have d3:rs ≠ [] := λ h=>by rw[h]at d2;exact Nat.lt_irrefl _ d2
 have d4:¬rs = []:=d3;have d5:1<rs.length:=by omega
 have d6:¬(rs.length:Int)<=0:=by omega
 have d7:¬(rs.length:Int)<=1:=by omega
 have aI:Hid (∀W':World,Below w.heap.size w W'->W'.cell? ⟨bx,0,none⟩=some (.pointer (some ⟨ax,0,none⟩))/\W'.cell? ⟨pb,o,none⟩=some (.slice A0 r0.length c0)/\W'.cell? ⟨pb,o+1,none⟩=some (.slice A1 r1.length c1)):=hid λ W' hb =>
  ⟨(hb.cell (p:=⟨bx,0,none⟩) e1).trans e0,(hb.cell (p:=⟨pb,o,none⟩) hlb).trans x0,(hb.cell (p:=⟨pb,o+1,none⟩) hlb).trans x1⟩
 have HR0:=hid l0;clear h hr hal HX0 uK hr0 hr1 e0 e3 e4 x0 x1 hN l0 l1 h1;have HI1:=hid (show Below w.heap.size w w.drew from(Below.refl _ _).drew);have HI2:=hid (show∀i,Below w.heap.size w (w.drewN i)from λ i=>(aU.n w i).below _);obtain⟨s0,s1,s2⟩:=aI.out w (Below.refl _ _)
 go_enter Tryz.func180,Tryz.ntmps180
 go_upto_region 1 with(fail)
 go_region_held3 (λ W':World=>W'.cell? ⟨bx,0,none⟩=some (.pointer (some ⟨ax,0,none⟩))/\W'.cell? ⟨pb,o,none⟩=some (.slice A0 r0.length c0)/\W'.cell? ⟨pb,o+1,none⟩=some (.slice A1 r1.length c1))
  (first|(with_reducible exact aI.out _ hI)|(go_keep;done))
  ((go_at_call 181;(with_reducible refine(HC.out _ (by first|exact HI1.out|exact HI2.out _)).mono ?_);rintro e V ⟨k,hk,rfl,hrow,hI⟩))
 all_goals
  have iD:=hid hI;have wu:=hid hrow;have HK:=hid hk;clear hrow hI hk;go_wp2_with fail
  go_ret
  exact lq.row (w2:=V) wu.out (by unfold vN;rw[jM];exact wo.out.symm) (by have:=HN.out;omega) HK.out iD.out
theorem VQ {D:Dom}(pv:Value)(A:Option Addr)(m c bx cb ax b:Nat)(l:List Sg)(W:iV)(rs:List (List Bool))(w:World)(h:Env w (· < w.heap.size) bx cb ax l W b)(hm:m=rs.length)(hr:oQ w D A c rs)(hal:∀i,i<rs.length->(rs.getD i []).length=b+W.loop.length)(h1:2<=rs.length) :
  Calls Tryz.prog 182 #[pv,.slice A m c,.pointer (some ⟨bx,0,none⟩)] w (lq w (b+W.loop.length) (pz b W.loop.length (rs.getD 0 []) (rs.getD 1 []))):=by
 subst hm;obtain⟨e0,e1,e3,e4⟩:=h.cells;obtain⟨N,hN⟩:∃N,N=b+W.loop.length:=⟨_,rfl⟩;have HN:=hid (show N<=100000 by rw[hN];exact h.hn);have wo:=hid hN;have HL:=hid h.hL;rw[<-hN]at e4⊢;have ex:ax<w.heap.size:=World.block_lt_of_cell? _ _ e4;have hlen:=hr.len.1;obtain⟨pb,o,A0,c0,r0,rfl,_,hlb,HX0,hr0,x0⟩:=hr.get (k:=0) (by omega);obtain⟨pb',o',A1,c1,r1,he,_,_,uK,hr1,x1⟩:=hr.get (k:=1) (by omega);simp only[Option.some.injEq,Addr.mk.injEq,and_true]at he;obtain⟨rfl,rfl⟩:=he;have l0:r0.length=N:=by rw[<-HX0.out,hN];exact hal 0 (by omega)
 have l1:r1.length=N:=by rw[<-uK.out,hN];exact hal 1 (by omega)
 rw[Nat.add_zero]at x0;rw[HX0.out,uK.out]
 have HC:Hid (∀W':World,Below w.heap.size w W'->Calls Tryz.prog 183 #[.pointer (some ⟨ax,0,none⟩),.slice A0 r0.length c0,.slice A1 r1.length c1] W' λ e w'=>∃k,w.heap.size<=k/\e = .returned (.slice (some ⟨k,0,none⟩) N N)/\gU w' k (pz b W.loop.length r0 r1)/\Below w.heap.size w w'):=hid λ W' hb =>
  (OH ax b W.loop.length N r0 r1 A0 A1 r0.length r1.length c0 c1 W' hN HL.out (by have:=HN.out;omega) ((hb.cell (p:=⟨ax,3,none⟩) ex).trans e3) ((hb.cell (p:=⟨ax,4,none⟩) ex).trans e4) ((hr0.old.keep (Keeps.of_below hb λ _ h=>h)).mono (E:=aW) λ _ _ _=>trivial) ((hr1.old.keep (Keeps.of_below hb λ _ h=>h)).mono (E:=aW) λ _ _ _=>trivial) rfl rfl l0 l1).mono λ e w' h'=>⟨W'.heap.size,hb.size,h'.1,h'.2.1,au hb h'.2.2⟩
 have d0:(0:Int)<(rs.length:Int):=by omega
 have d1:(1:Int)<(rs.length:Int):=by omega
 have d2:0<rs.length:=by omega
 have d3:rs ≠ [] := λ h=>by rw[h]at d2;exact Nat.lt_irrefl _ d2
 have d4:¬rs = []:=d3;have d5:1<rs.length:=by omega
 have d6:¬(rs.length:Int)<=0:=by omega
 have d7:¬(rs.length:Int)<=1:=by omega
 have aI:Hid (∀W':World,Below w.heap.size w W'->W'.cell? ⟨bx,0,none⟩=some (.pointer (some ⟨ax,0,none⟩))/\W'.cell? ⟨pb,o,none⟩=some (.slice A0 r0.length c0)/\W'.cell? ⟨pb,o+1,none⟩=some (.slice A1 r1.length c1)):=hid λ W' hb =>
  ⟨(hb.cell (p:=⟨bx,0,none⟩) e1).trans e0,(hb.cell (p:=⟨pb,o,none⟩) hlb).trans x0,(hb.cell (p:=⟨pb,o+1,none⟩) hlb).trans x1⟩
 have HR0:=hid l0;clear h hr hal HX0 uK hr0 hr1 e0 e3 e4 x0 x1 hN l0 l1 h1;have HI1:=hid (show Below w.heap.size w w.drew from(Below.refl _ _).drew);have HI2:=hid (show∀i,Below w.heap.size w (w.drewN i)from λ i=>(aU.n w i).below _);obtain⟨s0,s1,s2⟩:=aI.out w (Below.refl _ _)
 go_enter Tryz.func182,Tryz.ntmps182
 go_upto_region 1 with(fail)
 go_region_held3 (λ W':World=>W'.cell? ⟨bx,0,none⟩=some (.pointer (some ⟨ax,0,none⟩))/\W'.cell? ⟨pb,o,none⟩=some (.slice A0 r0.length c0)/\W'.cell? ⟨pb,o+1,none⟩=some (.slice A1 r1.length c1))
  (first|(with_reducible exact aI.out _ hI)|(go_keep;done))
  ((go_at_call 183;(with_reducible refine(HC.out _ (by first|exact HI1.out|exact HI2.out _)).mono ?_);rintro e V ⟨k,hk,rfl,hrow,hI⟩))
 all_goals
  have iD:=hid hI;have wu:=hid hrow;have HK:=hid hk;clear hrow hI hk;go_wp2_with fail
  go_ret
  exact lq.row (w2:=V) wu.out (by unfold pz;rw[nM];exact wo.out.symm) (by have:=HN.out;omega) HK.out iD.out
end Go.Proofs.YtdpbgcmfeajigaaGreatDoor
namespace Go.Proofs.YtdpbgcmfeajigaaGreatDoor
open Go.RowKit Go.Shelf
attribute [local go_sem] ak run_store_func Oper.semAt_some
def Jv (f:Nat->Bool)(c:Bool):Nat->Bool
 | 0=>c
 | k+1=>f k
theorem OY (a b:Nat->Bool)(c:Bool)(k:Nat):dI a b c k=(b k || (a k&&Jv (dI a b c) c k)):=by cases k <;> rfl
theorem Io (a b:Nat->Bool)(c:Bool)(k:Nat):bY a b c k=(b k&&(a k || Jv (bY a b c) c k)):=by cases k <;> rfl
def yL (w:World)(b:Nat)(x:Bool):Prop:=w.heap[b]?=some (.cells #[.bool x] 4 (0,0))
structure vP (w:World) (D:Dom) (rb n:Nat) (r:List Bool):Prop where
 ex:∃A c,w.heap[rb]?=some (.cells #[.slice A r.length c] 97 (0,0))/\RdB w D A c r
 len:r.length=n
theorem Eo (vb ub bb n k:Nat)(u v:List Bool)(c:Bool)(w:World)(h1:vP w (· ≠ bb) ub n u)(h2:vP w (· ≠ bb) vb n v)(hd:ub≠bb/\vb≠bb)(hb:yL w bb c)(hk:k<n)(R:Bool)(hR:R=(dP v k || (dP u k&&c))) :
  Calls Tryz.prog 215 #[.int .i64 (k:Int),.pointer (some ⟨vb,0,none⟩),.pointer (some ⟨ub,0,none⟩),.pointer (some ⟨bb,0,none⟩)] w λ e w'=>e = .returned (.bool R)/\aH (λ b=>b=bb) w w'/\yL w' bb R:=by
 obtain⟨A1,c1,p1,q1⟩:=h1.ex;obtain⟨A2,c2,p2,q2⟩:=h2.ex;have l1:=h1.len;have l2:=h2.len;obtain⟨bu,ou,x,rfl,hdu,hlu,HX,x0⟩:=q1.get (k:=k) (by omega);obtain⟨bv,ov,y,rfl,hdv,hlv,HY,y0⟩:=q2.get (k:=k) (by omega);have Iu:=hid (show R=(y || (x&&c))by rw[hR];unfold dP;rw[HX.out,HY.out]);have hu1:=q1.len.1;have hv1:=q2.len.1;have s0:=aj p1 (i:=0) rfl;have s1:=lt_of_block p1;have s2:=aj p2 (i:=0) rfl;have s3:=lt_of_block p2;have s4:=aj hb (i:=0) rfl;have s5:=lt_of_block hb;have s6:=aA hb (i:=0);have t1:(k:Int)<(u.length:Int):=by omega
 have t2:(k:Int)<(v.length:Int):=by omega
 have t0:(0:Int)<=(k:Int):=by omega
 have dW:=hid hb;clear h1 h2 p1 q1 p2 q2 hb HX HY hR l1 l2 hk hd
 cases y with
 | true =>
  go_enter Tryz.func215,Tryz.ntmps215
  go_wp2_with fail
  go_ret
  exact⟨aF (by rw[Iu.out];rfl),(aH.refl _ _).set _ _ λ _=>rfl,by unfold yL;rw[aB dW.out,Iu.out];rfl⟩
 | false =>
  cases x with
  | false =>
   go_enter Tryz.func215,Tryz.ntmps215
   go_wp2_with fail
   go_ret
   exact⟨aF (by rw[Iu.out];rfl),(aH.refl _ _).set _ _ λ _=>rfl,by unfold yL;rw[aB dW.out,Iu.out];rfl⟩
  | true =>
   go_enter Tryz.func215,Tryz.ntmps215
   go_wp2_with fail
   go_ret
   exact⟨aF (by rw[Iu.out];rfl),(aH.refl _ _).set _ _ λ _=>rfl,by unfold yL;rw[aB dW.out,Iu.out];rfl⟩
theorem WX {D:Dom}(ax n:Nat)(u v:List Bool)(c:Bool)(A1 A2:Option Addr)(m1 m2 c1 c2:Nat)(w:World)(hn:n<=100000)(h4:w.cell? ⟨ax,4,none⟩=some (.int .i64 (n:Int)))
  (h1:RdB w D A1 c1 u) (h2:RdB w D A2 c2 v) (hm1:m1=u.length) (hm2:m2=v.length) (hu:u.length=n) (hv:v.length=n) :
  Calls Tryz.prog 194 #[.pointer (some ⟨ax,0,none⟩),.slice A1 m1 c1,.slice A2 m2 c2,.bool c] w λ e w'=>e = .returned (.slice (some ⟨w.heap.size+3,0,none⟩) n n)/\gU w' (w.heap.size+3) (kK n (dI (dP u) (dP v) c))/\Below w.heap.size w w':=by
 subst hm1 hm2;have hal:ax<w.heap.size:=World.block_lt_of_cell? _ _ h4;have HU:=hid h1.old;have HV:=hid h2.old;have HUN:=hid hu;have HVN:=hid hv;have zN:=hid h4;have hmf:∀(fn:Fn) (first cap:Array Value) (w:World),(Instr.makeFunc fn first cap).run Tryz.prog w = .ok (.func fn first cap) w := λ _ _ _ _=>rfl;clear h1 h2 hu hv
 go_enter Tryz.func194,Tryz.ntmps194
 go_upto_region 1 with(fail)
 refine aC λ U hU=>?_;have HB:=hid (show Below w.heap.size w U by rw[hU];go_grown);have HS:=hid (show U.heap.size=w.heap.size+3 by rw[hU];simp);have UR:=hid (show U.heap[w.heap.size]?=some (.cells #[.slice A1 u.length c1] 97 (0,0))by rw[hU,aQ _ _ _ (by first|(simp;done)|(simp;omega)),aQ _ _ _ (by simp)];exact at_new _ _ _ rfl);have HP2:=hid (show U.heap[w.heap.size+1]?=some (.cells #[.slice A2 v.length c2] 97 (0,0))by rw[hU,aQ _ _ _ (by simp)];exact at_new _ _ _ (by simp));have HP3:=hid (show yL U (w.heap.size+2) c by rw[hU];exact at_new _ _ _ (by simp))
 have HR1:=hid (show vP U (· < w.heap.size+2) w.heap.size n u from⟨⟨A1,c1,UR.out,(HU.out.keep (Keeps.of_below HB.out λ _ h=>h)).mono λ k hk _=>Nat.lt_of_lt_of_le hk (Nat.le_add_right _ _)⟩,HUN.out⟩);have HR2:=hid (show vP U (· < w.heap.size+2) (w.heap.size+1) n v from⟨⟨A2,c2,HP2.out,(HV.out.keep (Keeps.of_below HB.out λ _ h=>h)).mono λ k hk _=>Nat.lt_of_lt_of_le hk (Nat.le_add_right _ _)⟩,HVN.out⟩);have HA:=hid ((HB.out.cell (p:=⟨ax,4,none⟩) hal).trans h4)
 have qdt:Hid (QA 215 #[.pointer (some ⟨w.heap.size+1,0,none⟩),.pointer (some ⟨w.heap.size,0,none⟩),.pointer (some ⟨w.heap.size+2,0,none⟩)] n (dI (dP u) (dP v) c) (λ b=>b=w.heap.size+2) (λ k W=>yL W (w.heap.size+2) (Jv (dI (dP u) (dP v) c) c k)) U):=hid λ k W hk hc hI=>by
  have kp:∀(r:List Bool) (rb:Nat),rb≠w.heap.size+2->vP U (· < w.heap.size+2) rb n r->vP W (· ≠ w.heap.size+2) rb n r := λ r rb hne h=>by
   obtain⟨A,d,h1,h2⟩:=h.ex;exact⟨⟨A,d,hc.box h1 hne,(h2.keep (hc.keeps λ b _ h e=>by omega)).mono λ b hb _ e=>by omega⟩,h.len⟩
  refine(Eo (w.heap.size+1) w.heap.size (w.heap.size+2) n k u v _ W (kp u _ (by omega) HR1.out) (kp v _ (by omega) HR2.out) ⟨by omega,by omega⟩ hI hk (dI (dP u) (dP v) c k) (OY _ _ _ _)).mono ?_;rintro e W' ⟨rfl,h1,h2⟩;exact⟨rfl,h1,h2⟩
 have jI:=hid (show U.heap.size=w.heap.size+3 from HS.out);clear hU h4;go_wp2_with (go_at_call 162;refine(FB ax 215 n #[.pointer (some ⟨w.heap.size+1,0,none⟩),.pointer (some ⟨w.heap.size,0,none⟩),.pointer (some ⟨w.heap.size+2,0,none⟩)] (dI (dP u) (dP v) c) (λ b=>b=w.heap.size+2) (λ k W=>yL W (w.heap.size+2) (Jv (dI (dP u) (dP v) c) c k)) U (by omega) (λ b hb=>by have:=HS.out;omega) (by omega) HA.out (enters_of Tryz.func215 (by kernel_rfl) rfl) HP3.out (λ k W W' h hc=>hc.box h (by have:=HS.out;omega)) qdt.out).mono ?_;rintro e w2 ⟨rfl,hrow,hc2,_⟩;have wu:=hid hrow;have HC2:=hid hc2;clear hrow hc2)
 go_ret
 rw[HS.out]at wu;exact⟨by rw[HS.out];rfl,wu.out,HB.out.trans (HC2.out.below (λ x hx=>by omega) HB.out.size)⟩
theorem VT {D:Dom}(fb fo:Nat)(v:Int)(A:Option Addr)(m c bx cb ax b:Nat)(l:List Sg)(W:iV)(rs:List (List Bool))(w:World)(h:Env w (· < w.heap.size) bx cb ax l W b)(hm:m=rs.length)(hr:oQ w D A c rs)(hal:∀i,i<rs.length->(rs.getD i []).length=b+W.loop.length)(h1:2<=rs.length)(hf2:w.cell? ⟨fb,fo+2,none⟩=some (.int .i64 v)) :
  Calls Tryz.prog 193 #[.pointer (some ⟨fb,fo,none⟩),.slice A m c,.pointer (some ⟨bx,0,none⟩)] w (lq w (b+W.loop.length) (kK (b+W.loop.length) (dI (dP (rs.getD 0 [])) (dP (rs.getD 1 [])) (v==1)))):=by
 subst hm;obtain⟨e0,e1,e3,e4⟩:=h.cells;obtain⟨N,hN⟩:∃N,N=b+W.loop.length:=⟨_,rfl⟩;have HN:=hid (show N<=100000 by rw[hN];exact h.hn);rw[<-hN]at e4⊢;have ex:ax<w.heap.size:=World.block_lt_of_cell? _ _ e4;have f2:fb<w.heap.size:=World.block_lt_of_cell? _ _ hf2;have hlen:=hr.len.1;obtain⟨pb,o,A0,c0,r0,rfl,_,hlb,HX0,hr0,x0⟩:=hr.get (k:=0) (by omega);obtain⟨pb',o',A1,c1,r1,he,_,_,uK,hr1,x1⟩:=hr.get (k:=1) (by omega);simp only[Option.some.injEq,Addr.mk.injEq,and_true]at he;obtain⟨rfl,rfl⟩:=he;have l0:r0.length=N:=by rw[<-HX0.out,hN];exact hal 0 (by omega)
 have l1:r1.length=N:=by rw[<-uK.out,hN];exact hal 1 (by omega)
 rw[Nat.add_zero]at x0;rw[HX0.out,uK.out]
 have HC:Hid (∀W':World,Below w.heap.size w W'->Calls Tryz.prog 194 #[.pointer (some ⟨ax,0,none⟩),.slice A0 r0.length c0,.slice A1 r1.length c1,.bool (v==1)] W' λ e w'=>∃k,w.heap.size<=k/\e = .returned (.slice (some ⟨k,0,none⟩) N N)/\gU w' k (kK N (dI (dP r0) (dP r1) (v==1)))/\Below w.heap.size w w'):=hid λ W' hb =>
  (WX ax N r0 r1 (v==1) A0 A1 r0.length r1.length c0 c1 W' (by have:=HN.out;omega) ((hb.cell (p:=⟨ax,4,none⟩) ex).trans e4) ((hr0.old.keep (Keeps.of_below hb λ _ h=>h)).mono (E:=aW) λ _ _ _=>trivial) ((hr1.old.keep (Keeps.of_below hb λ _ h=>h)).mono (E:=aW) λ _ _ _=>trivial) rfl rfl l0 l1).mono λ e w' h'=>⟨W'.heap.size+3,by have:=hb.size;omega,h'.1,h'.2.1,au hb h'.2.2⟩
 have d0:(0:Int)<(rs.length:Int):=by omega
 have d1:(1:Int)<(rs.length:Int):=by omega
 have d2:0<rs.length:=by omega
 have d3:rs ≠ [] := λ h=>by rw[h]at d2;exact Nat.lt_irrefl _ d2
 have d4:¬rs = []:=d3;have d5:1<rs.length:=by omega
 have d6:¬(rs.length:Int)<=0:=by omega
 have d7:¬(rs.length:Int)<=1:=by omega
 have aI:Hid (∀W':World,Below w.heap.size w W'->W'.cell? ⟨bx,0,none⟩=some (.pointer (some ⟨ax,0,none⟩))/\W'.cell? ⟨pb,o,none⟩=some (.slice A0 r0.length c0)/\W'.cell? ⟨pb,o+1,none⟩=some (.slice A1 r1.length c1)/\W'.cell? ⟨fb,fo+2,none⟩=some (.int .i64 v)):=hid λ W' hb =>
  ⟨(hb.cell (p:=⟨bx,0,none⟩) e1).trans e0,(hb.cell (p:=⟨pb,o,none⟩) hlb).trans x0,(hb.cell (p:=⟨pb,o+1,none⟩) hlb).trans x1,(hb.cell (p:=⟨fb,fo+2,none⟩) f2).trans hf2⟩
 clear h hr hal HX0 uK hr0 hr1 e0 e3 e4 x0 x1 hN l0 l1 h1 hf2;have HI1:=hid (show Below w.heap.size w w.drew from(Below.refl _ _).drew);have HI2:=hid (show∀i,Below w.heap.size w (w.drewN i)from λ i=>(aU.n w i).below _);obtain⟨s0,s1,s2,s3⟩:=aI.out w (Below.refl _ _)
 go_enter Tryz.func193,Tryz.ntmps193
 go_upto_region 1 with(fail)
 go_region_held3 (λ W':World=>W'.cell? ⟨bx,0,none⟩=some (.pointer (some ⟨ax,0,none⟩))/\W'.cell? ⟨pb,o,none⟩=some (.slice A0 r0.length c0)/\W'.cell? ⟨pb,o+1,none⟩=some (.slice A1 r1.length c1)/\W'.cell? ⟨fb,fo+2,none⟩=some (.int .i64 v))
  (first|(with_reducible exact aI.out _ hI)|(go_keep;done))
  ((go_at_call 194;(with_reducible refine(HC.out _ (by first|exact HI1.out|exact HI2.out _)).mono ?_);rintro e V ⟨k,hk,rfl,hrow,hI⟩))
 all_goals
  have iD:=hid hI;have wu:=hid hrow;have HK:=hid hk;clear hrow hI hk;go_wp2_with fail
  go_ret
  exact lq.row (w2:=V) wu.out (lg _ _) (by have:=HN.out;omega) HK.out iD.out
theorem AB (vb ub bb n k:Nat)(u v:List Bool)(c:Bool)(w:World)(h1:vP w (· ≠ bb) ub n u)(h2:vP w (· ≠ bb) vb n v)(hd:ub≠bb/\vb≠bb)(hb:yL w bb c)(hk:k<n)(R:Bool)(hR:R=(dP v k&&(dP u k || c))) :
  Calls Tryz.prog 216 #[.int .i64 (k:Int),.pointer (some ⟨vb,0,none⟩),.pointer (some ⟨ub,0,none⟩),.pointer (some ⟨bb,0,none⟩)] w λ e w'=>e = .returned (.bool R)/\aH (λ b=>b=bb) w w'/\yL w' bb R:=by
 obtain⟨A1,c1,p1,q1⟩:=h1.ex;obtain⟨A2,c2,p2,q2⟩:=h2.ex;have l1:=h1.len;have l2:=h2.len;obtain⟨bu,ou,x,rfl,hdu,hlu,HX,x0⟩:=q1.get (k:=k) (by omega);obtain⟨bv,ov,y,rfl,hdv,hlv,HY,y0⟩:=q2.get (k:=k) (by omega);have Iu:=hid (show R=(y&&(x || c))by rw[hR];unfold dP;rw[HX.out,HY.out]);have hu1:=q1.len.1;have hv1:=q2.len.1;have s0:=aj p1 (i:=0) rfl;have s1:=lt_of_block p1;have s2:=aj p2 (i:=0) rfl;have s3:=lt_of_block p2;have s4:=aj hb (i:=0) rfl;have s5:=lt_of_block hb;have s6:=aA hb (i:=0);have t1:(k:Int)<(u.length:Int):=by omega
 have t2:(k:Int)<(v.length:Int):=by omega
 have t0:(0:Int)<=(k:Int):=by omega
 have dW:=hid hb;clear h1 h2 p1 q1 p2 q2 hb HX HY hR l1 l2 hk hd
 cases y with
 | false =>
  go_enter Tryz.func216,Tryz.ntmps216
  go_wp2_with fail
  go_ret
  exact⟨aF (by rw[Iu.out];rfl),(aH.refl _ _).set _ _ λ _=>rfl,by unfold yL;rw[aB dW.out,Iu.out];rfl⟩
 | true =>
  cases x with
  | true =>
   go_enter Tryz.func216,Tryz.ntmps216
   go_wp2_with fail
   go_ret
   exact⟨aF (by rw[Iu.out];rfl),(aH.refl _ _).set _ _ λ _=>rfl,by unfold yL;rw[aB dW.out,Iu.out];rfl⟩
  | false =>
   go_enter Tryz.func216,Tryz.ntmps216
   go_wp2_with fail
   go_ret
   exact⟨aF (by rw[Iu.out];rfl),(aH.refl _ _).set _ _ λ _=>rfl,by unfold yL;rw[aB dW.out,Iu.out];rfl⟩
theorem O6 {D:Dom}(ax n:Nat)(u v:List Bool)(c:Bool)(A1 A2:Option Addr)(m1 m2 c1 c2:Nat)(w:World)(hn:n<=100000)(h4:w.cell? ⟨ax,4,none⟩=some (.int .i64 (n:Int)))
  (h1:RdB w D A1 c1 u) (h2:RdB w D A2 c2 v) (hm1:m1=u.length) (hm2:m2=v.length) (hu:u.length=n) (hv:v.length=n) :
  Calls Tryz.prog 196 #[.pointer (some ⟨ax,0,none⟩),.slice A1 m1 c1,.slice A2 m2 c2,.bool c] w λ e w'=>e = .returned (.slice (some ⟨w.heap.size+3,0,none⟩) n n)/\gU w' (w.heap.size+3) (kK n (bY (dP u) (dP v) c))/\Below w.heap.size w w':=by
 subst hm1 hm2;have hal:ax<w.heap.size:=World.block_lt_of_cell? _ _ h4;have HU:=hid h1.old;have HV:=hid h2.old;have HUN:=hid hu;have HVN:=hid hv;have zN:=hid h4;have hmf:∀(fn:Fn) (first cap:Array Value) (w:World),(Instr.makeFunc fn first cap).run Tryz.prog w = .ok (.func fn first cap) w := λ _ _ _ _=>rfl;clear h1 h2 hu hv
 go_enter Tryz.func196,Tryz.ntmps196
 go_upto_region 1 with(fail)
 refine aC λ U hU=>?_;have HB:=hid (show Below w.heap.size w U by rw[hU];go_grown);have HS:=hid (show U.heap.size=w.heap.size+3 by rw[hU];simp);have UR:=hid (show U.heap[w.heap.size]?=some (.cells #[.slice A1 u.length c1] 97 (0,0))by rw[hU,aQ _ _ _ (by first|(simp;done)|(simp;omega)),aQ _ _ _ (by simp)];exact at_new _ _ _ rfl);have HP2:=hid (show U.heap[w.heap.size+1]?=some (.cells #[.slice A2 v.length c2] 97 (0,0))by rw[hU,aQ _ _ _ (by simp)];exact at_new _ _ _ (by simp));have HP3:=hid (show yL U (w.heap.size+2) c by rw[hU];exact at_new _ _ _ (by simp))
 have HR1:=hid (show vP U (· < w.heap.size+2) w.heap.size n u from⟨⟨A1,c1,UR.out,(HU.out.keep (Keeps.of_below HB.out λ _ h=>h)).mono λ k hk _=>Nat.lt_of_lt_of_le hk (Nat.le_add_right _ _)⟩,HUN.out⟩);have HR2:=hid (show vP U (· < w.heap.size+2) (w.heap.size+1) n v from⟨⟨A2,c2,HP2.out,(HV.out.keep (Keeps.of_below HB.out λ _ h=>h)).mono λ k hk _=>Nat.lt_of_lt_of_le hk (Nat.le_add_right _ _)⟩,HVN.out⟩);have HA:=hid ((HB.out.cell (p:=⟨ax,4,none⟩) hal).trans h4)
 have qdt:Hid (QA 216 #[.pointer (some ⟨w.heap.size+1,0,none⟩),.pointer (some ⟨w.heap.size,0,none⟩),.pointer (some ⟨w.heap.size+2,0,none⟩)] n (bY (dP u) (dP v) c) (λ b=>b=w.heap.size+2) (λ k W=>yL W (w.heap.size+2) (Jv (bY (dP u) (dP v) c) c k)) U):=hid λ k W hk hc hI=>by
  have kp:∀(r:List Bool) (rb:Nat),rb≠w.heap.size+2->vP U (· < w.heap.size+2) rb n r->vP W (· ≠ w.heap.size+2) rb n r := λ r rb hne h=>by
   obtain⟨A,d,h1,h2⟩:=h.ex;exact⟨⟨A,d,hc.box h1 hne,(h2.keep (hc.keeps λ b _ h e=>by omega)).mono λ b hb _ e=>by omega⟩,h.len⟩
  refine(AB (w.heap.size+1) w.heap.size (w.heap.size+2) n k u v _ W (kp u _ (by omega) HR1.out) (kp v _ (by omega) HR2.out) ⟨by omega,by omega⟩ hI hk (bY (dP u) (dP v) c k) (Io _ _ _ _)).mono ?_;rintro e W' ⟨rfl,h1,h2⟩;exact⟨rfl,h1,h2⟩
 have jI:=hid (show U.heap.size=w.heap.size+3 from HS.out);clear hU h4;go_wp2_with (go_at_call 162;refine(FB ax 216 n #[.pointer (some ⟨w.heap.size+1,0,none⟩),.pointer (some ⟨w.heap.size,0,none⟩),.pointer (some ⟨w.heap.size+2,0,none⟩)] (bY (dP u) (dP v) c) (λ b=>b=w.heap.size+2) (λ k W=>yL W (w.heap.size+2) (Jv (bY (dP u) (dP v) c) c k)) U (by omega) (λ b hb=>by have:=HS.out;omega) (by omega) HA.out (enters_of Tryz.func216 (by kernel_rfl) rfl) HP3.out (λ k W W' h hc=>hc.box h (by have:=HS.out;omega)) qdt.out).mono ?_;rintro e w2 ⟨rfl,hrow,hc2,_⟩;have wu:=hid hrow;have HC2:=hid hc2;clear hrow hc2)
 go_ret
 rw[HS.out]at wu;exact⟨by rw[HS.out];rfl,wu.out,HB.out.trans (HC2.out.below (λ x hx=>by omega) HB.out.size)⟩
theorem VU {D:Dom}(fb fo:Nat)(v:Int)(A:Option Addr)(m c bx cb ax b:Nat)(l:List Sg)(W:iV)(rs:List (List Bool))(w:World)(h:Env w (· < w.heap.size) bx cb ax l W b)(hm:m=rs.length)(hr:oQ w D A c rs)(hal:∀i,i<rs.length->(rs.getD i []).length=b+W.loop.length)(h1:2<=rs.length)(hf2:w.cell? ⟨fb,fo+2,none⟩=some (.int .i64 v)) :
  Calls Tryz.prog 195 #[.pointer (some ⟨fb,fo,none⟩),.slice A m c,.pointer (some ⟨bx,0,none⟩)] w (lq w (b+W.loop.length) (kK (b+W.loop.length) (bY (dP (rs.getD 0 [])) (dP (rs.getD 1 [])) (v==1)))):=by
 subst hm;obtain⟨e0,e1,e3,e4⟩:=h.cells;obtain⟨N,hN⟩:∃N,N=b+W.loop.length:=⟨_,rfl⟩;have HN:=hid (show N<=100000 by rw[hN];exact h.hn);rw[<-hN]at e4⊢;have ex:ax<w.heap.size:=World.block_lt_of_cell? _ _ e4;have f2:fb<w.heap.size:=World.block_lt_of_cell? _ _ hf2;have hlen:=hr.len.1;obtain⟨pb,o,A0,c0,r0,rfl,_,hlb,HX0,hr0,x0⟩:=hr.get (k:=0) (by omega);obtain⟨pb',o',A1,c1,r1,he,_,_,uK,hr1,x1⟩:=hr.get (k:=1) (by omega);simp only[Option.some.injEq,Addr.mk.injEq,and_true]at he;obtain⟨rfl,rfl⟩:=he;have l0:r0.length=N:=by rw[<-HX0.out,hN];exact hal 0 (by omega)
 have l1:r1.length=N:=by rw[<-uK.out,hN];exact hal 1 (by omega)
 rw[Nat.add_zero]at x0;rw[HX0.out,uK.out]
 have HC:Hid (∀W':World,Below w.heap.size w W'->Calls Tryz.prog 196 #[.pointer (some ⟨ax,0,none⟩),.slice A0 r0.length c0,.slice A1 r1.length c1,.bool (v==1)] W' λ e w'=>∃k,w.heap.size<=k/\e = .returned (.slice (some ⟨k,0,none⟩) N N)/\gU w' k (kK N (bY (dP r0) (dP r1) (v==1)))/\Below w.heap.size w w'):=hid λ W' hb =>
  (O6 ax N r0 r1 (v==1) A0 A1 r0.length r1.length c0 c1 W' (by have:=HN.out;omega) ((hb.cell (p:=⟨ax,4,none⟩) ex).trans e4) ((hr0.old.keep (Keeps.of_below hb λ _ h=>h)).mono (E:=aW) λ _ _ _=>trivial) ((hr1.old.keep (Keeps.of_below hb λ _ h=>h)).mono (E:=aW) λ _ _ _=>trivial) rfl rfl l0 l1).mono λ e w' h'=>⟨W'.heap.size+3,by have:=hb.size;omega,h'.1,h'.2.1,au hb h'.2.2⟩
 have d0:(0:Int)<(rs.length:Int):=by omega
 have d1:(1:Int)<(rs.length:Int):=by omega
 have d2:0<rs.length:=by omega
 have d3:rs ≠ [] := λ h=>by rw[h]at d2;exact Nat.lt_irrefl _ d2
 have d4:¬rs = []:=d3;have d5:1<rs.length:=by omega
 have d6:¬(rs.length:Int)<=0:=by omega
 have d7:¬(rs.length:Int)<=1:=by omega
 have aI:Hid (∀W':World,Below w.heap.size w W'->W'.cell? ⟨bx,0,none⟩=some (.pointer (some ⟨ax,0,none⟩))/\W'.cell? ⟨pb,o,none⟩=some (.slice A0 r0.length c0)/\W'.cell? ⟨pb,o+1,none⟩=some (.slice A1 r1.length c1)/\W'.cell? ⟨fb,fo+2,none⟩=some (.int .i64 v)):=hid λ W' hb =>
  ⟨(hb.cell (p:=⟨bx,0,none⟩) e1).trans e0,(hb.cell (p:=⟨pb,o,none⟩) hlb).trans x0,(hb.cell (p:=⟨pb,o+1,none⟩) hlb).trans x1,(hb.cell (p:=⟨fb,fo+2,none⟩) f2).trans hf2⟩
 clear h hr hal HX0 uK hr0 hr1 e0 e3 e4 x0 x1 hN l0 l1 h1 hf2;have HI1:=hid (show Below w.heap.size w w.drew from(Below.refl _ _).drew);have HI2:=hid (show∀i,Below w.heap.size w (w.drewN i)from λ i=>(aU.n w i).below _);obtain⟨s0,s1,s2,s3⟩:=aI.out w (Below.refl _ _)
 go_enter Tryz.func195,Tryz.ntmps195
 go_upto_region 1 with(fail)
 go_region_held3 (λ W':World=>W'.cell? ⟨bx,0,none⟩=some (.pointer (some ⟨ax,0,none⟩))/\W'.cell? ⟨pb,o,none⟩=some (.slice A0 r0.length c0)/\W'.cell? ⟨pb,o+1,none⟩=some (.slice A1 r1.length c1)/\W'.cell? ⟨fb,fo+2,none⟩=some (.int .i64 v))
  (first|(with_reducible exact aI.out _ hI)|(go_keep;done))
  ((go_at_call 196;(with_reducible refine(HC.out _ (by first|exact HI1.out|exact HI2.out _)).mono ?_);rintro e V ⟨k,hk,rfl,hrow,hI⟩))
 all_goals
  have iD:=hid hI;have wu:=hid hrow;have HK:=hid hk;clear hrow hI hk;go_wp2_with fail
  go_ret
  exact lq.row (w2:=V) wu.out (lg _ _) (by have:=HN.out;omega) HK.out iD.out
end Go.Proofs.YtdpbgcmfeajigaaGreatDoor
