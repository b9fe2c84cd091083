/-
  Parts of a proof: UB UC UD UE UF UG UH UI UJ UK UL UM.
-/
import Derived.Test.YtdpbgcmfeajigaaGreatDoorA26
set_option linter.unusedSimpArgs false
set_option linter.unusedVariables false
set_option maxHeartbeats 8000000
set_option maxRecDepth 100000
namespace Go.Proofs.YtdpbgcmfeajigaaGreatDoor
open Go.RowKit Go.Shelf
attribute [local go_sem] ak run_store_func Oper.semAt_some
theorem CS:∀{l:List Fm},(∀g,g∈l->eU g<=g.size)->iq l<=sizes l
 | [],_=>Nat.zero_le _
 | f :: l,h=>by
  have h1:=h f (by simp);have h2:=CS (l:=l) λ g hg=>h g (by simp[hg]);rw[iq,sizes];omega
theorem Oc (f:Fm):eU f<=f.size:=by
 refine Fm.pW (P := λ f=>eU f<=f.size) ?_ f;intro f ih;rw[uw,Fm.size_eq];have:=CS ih
 split <;> omega
theorem DW:∀(l:List Fm) (g:Fm),iq (l ++ [g])=max (iq l) (eU g)
 | [],g=>by simp[iq]
 | f :: l,g=>by simp only[List.cons_append,iq,DW l g];omega
theorem Oe {l:List Fm}{k:Nat}(h:k<l.length):iq (l.take (k+1))=max (iq (l.take k)) (eU (l.getD k default)):=by
 rw[bP l default h,DW]
def qco (f:Fm):Prop:=∀(D:Dom) (fb fo:Nat) (A:Option Addr) (c:Nat) (w:World),dU w D fb fo f A c ->
 Calls Tryz.prog 136 #[.pointer (some ⟨fb,fo,none⟩)] w λ e w'=>e = .returned (.int .i64 (eU f:Int))/\Below w.heap.size w w'
theorem RY (f:Fm)(hf:f.size<=1000000):qco f:=by
 refine Fm.pW (P := λ f=>f.size<=1000000->qco f) ?_ f hf;clear hf f;intro f ih hf D fb fo A c w hF;have HF:=hid hF;have hal:=hF.args.len.1;obtain⟨_,q1,p0,p1,p2,_,p4,_⟩:=hF;obtain⟨N,hN⟩:∃N,N=f.args.length:=⟨_,rfl⟩;rw[<-hN]at p4 hal;have HN:=hid hN;have jI:=hid λ g (hg:g∈f.args)=>(show g.size<=1000000 by have:=gq hg;rw[Fm.size_eq]at hf;omega);have HIH:=hid λ g (hg:g∈f.args)=>ih g hg (jI.out g hg);have MC:=hid (show iq f.args+1<=1000001 by have:=CS (l:=f.args) λ g _=>Oc g;rw[Fm.size_eq]at hf;omega);have wL:=hid (uw f);clear hf ih hN
 go_enter Tryz.func136,Tryz.ntmps136
 go_wp2_with fail
 go_loopw [3,10] (λ r3 r wr=>∃k:Nat,k<=N/\r = .int .i64 (k:Int)/\r3 = .int .i64 (iq (f.args.take k):Int)/\Below w.heap.size w wr) (λ _ r _=>N-(intOf r).toNat)
 case atStart=>exact⟨0,Nat.zero_le _,rfl,rfl,by go_grown⟩
 case round =>
  obtain⟨k,hk,rfl,rfl,hbl⟩:=hrel;have bH:=hid hbl;clear hbl
  by_cases hlt:k<N
  ·have hii:(k:Int)<(N:Int):=by omega
   have hi0:(0:Int)<=(k:Int):=by omega
   have hlf:k<f.args.length:=by rw[<-HN.out];exact hlt
   obtain⟨b1,o1,A',c',g,rfl,HX,hg⟩:=(HF.out.old.keep (Keeps.of_below bH.out λ _ h=>h)).args.get hlf;have aX:=hid (HIH.out g (by rw[<-HX.out];exact dA hlf) _ b1 (o1+k*5) A' c' wr hg);have HT:=hid (show iq (f.args.take (k+1))=max (iq (f.args.take k)) (eU g)by rw[Oe hlf,HX.out]);have y4:=(bH.out.cell (p:=⟨fb,fo+4,none⟩) q1).trans p4;have y5:fb<wr.heap.size:=Nat.lt_of_lt_of_le q1 bH.out.size;obtain⟨a,ha⟩:∃a,iq (f.args.take k)=a:=⟨_,rfl⟩;obtain⟨z,hz⟩:∃z,eU g=z:=⟨_,rfl⟩;rw[hz]at HT aX;rw[ha]at HT⊢;clear HX hg ha hz;go_wp2_with (go_at_call 136;refine aX.out.mono ?_;rintro e W2 ⟨rfl,hb2⟩;have HB2:=hid hb2;clear hb2)
   go_roundw
   case rel=>exact⟨k+1,by omega,by go_num,by rw[HT.out];congr 1;omega,au bH.out HB2.out⟩
   case measure=>simp[intOf];omega
  ·have hii:¬(k:Int)<(N:Int):=by omega
   have hkn:k=N:=by omega
   subst hkn;have Ed:=hid (show iq (f.args.take k)=iq f.args by rw[HN.out,List.take_length]);rw[Ed.out];obtain⟨z,hz⟩:∃z,iq f.args=z:=⟨_,rfl⟩;rw[hz]at wL MC⊢;have w1:IntKind.i64.wrap ((z:Int)+1)=(z:Int)+1:=IntWalk.i64_in _ (by have:=MC.out;omega);have y5:fb<wr.heap.size:=Nat.lt_of_lt_of_le q1 bH.out.size;have y0:=(bH.out.cell (p:=⟨fb,fo,none⟩) q1).trans p0;clear hz p0
   by_cases hp:15<=f.op/\f.op<=19
   ·have HR:=hid (show eU f=z+1 by rw[wL.out,if_pos hp])
    have h5:f.op=15\/f.op=16\/f.op=17\/f.op=18\/f.op=19:=by omega
    clear hp
    rcases h5 with e|e|e|e|e
    all_goals
     rw[e]at y0;clear e;go_wp2_with fail
     go_ret
     exact⟨dD (by rw[HR.out];rfl),bH.out⟩
   ·have HR:=hid (show eU f=z by rw[wL.out,if_neg hp];rfl)
    have d1:(f.op==15)=false:=cu (by omega);have d2:(f.op==16)=false:=cu (by omega);have d3:(f.op==17)=false:=cu (by omega);have d4:(f.op==18)=false:=cu (by omega);have d5:(f.op==19)=false:=cu (by omega);clear hp;go_wp2_with fail
    go_ret
    exact⟨dD (by rw[HR.out]),bH.out⟩
end Go.Proofs.YtdpbgcmfeajigaaGreatDoor
namespace Go.Proofs.YtdpbgcmfeajigaaGreatDoor
open Go.RowKit Go.Shelf
attribute [local go_sem] ak run_store_func Oper.semAt_some
theorem BZ (o:Int)(n:ByteArray)(v b:Int)(A:Option Addr)(k c:Nat)(w:World):(Instr.field 24 (.agg #[.int .i64 o,.string n,.int .i64 v,.int .i64 b,.slice A k c]) 0).run Tryz.prog w = .ok (.int .i64 o) w:=by kernel_rfl
theorem Af {f:Fm}(h:bf f=true):(gZ f).op≠0:=by
 rw[Ef h];obtain⟨h1,_,h3⟩:=iI h;have hb:Bare (bV f):=Bare.canon ⟨_,h3⟩ (Uo (by omega));intro e
 rcases kT hb.node.1 with hp|hp|hp
 ·rw[e]at hp
  unfold vC at hp;omega
 ·omega
 ·omega
theorem H7 {D E:Dom}(l:List Sg)(AS:Option Addr)(cS n:Nat)(f:Fm)(fb fo:Nat)(A:Option Addr)(c:Nat)(w:World)(hn:n=l.length)(hG:ng w E AS cS l)(hF:dU w D fb fo f A c)(hf:wC l f)(hl:bf f=true)(hv:dN l=true)(hg:GF w)(hk:GK w) :
  Calls Tryz.prog 105 #[.slice AS n cS,.pointer (some ⟨fb,fo,none⟩)] w λ e w'=>e = .returned (.bool true)/\Below w.heap.size w w':=by
 subst hn;have HG:=hid hG;have HF:=hid hF;have J5:=hid hf;have HL:=hid (Af hl);have yM:=hid hg;have J3:=hid hk;have hsl:=hG.len.1;have hal:=hF.args.len.1;have BK:=hid (vK l AS cS l.length w rfl hG hk);rw[hv]at BK;obtain⟨_,q1,p0,p1,p2,p3,p4,_⟩:=hF;obtain⟨v,hv0⟩:∃v,v=Value.agg #[.int .i64 f.op,.string f.name,.int .i64 f.val,.int .i64 f.bound,.slice A f.args.length c]:=⟨_,rfl⟩
 have HV:=hid (show∀W',Below w.heap.size w W'->bI W' (· < w.heap.size) (.agg #[.int .i64 f.op,.string f.name,.int .i64 f.val,.int .i64 f.bound,.slice A f.args.length c]) f from λ W' hb =>
  ⟨A,c,rfl,HF.out.old.args.keep (Keeps.of_below hb λ _ h=>h)⟩)
 have aI:Hid (∀W':World,Below w.heap.size w W'->W'.cell? ⟨fb,fo,none⟩=some (.int .i64 f.op)/\W'.cell? ⟨fb,fo+1,none⟩=some (.string f.name)/\W'.cell? ⟨fb,fo+2,none⟩=some (.int .i64 f.val)/\W'.cell? ⟨fb,fo+3,none⟩=some (.int .i64 f.bound)/\W'.cell? ⟨fb,fo+4,none⟩=some (.slice A f.args.length c)/\fb<W'.heap.size):=hid λ W' hb =>
  ⟨(hb.cell (p:=⟨fb,fo,none⟩) q1).trans p0,(hb.cell (p:=⟨fb,fo+1,none⟩) q1).trans p1,(hb.cell (p:=⟨fb,fo+2,none⟩) q1).trans p2,(hb.cell (p:=⟨fb,fo+3,none⟩) q1).trans p3,(hb.cell (p:=⟨fb,fo+4,none⟩) q1).trans p4,Nat.lt_of_lt_of_le q1 hb.size⟩
 clear hG hf hl hg hk hv p0 p1 p2 p3 p4 q1 hv0 v
 go_enter Tryz.func105,Tryz.ntmps105
 go_upto_region 3 with(go_at_call 84;(with_reducible refine BK.out.mono ?_);rintro e W1 ⟨rfl,hb1⟩;have HB1:=hid hb1;clear hb1)
 obtain⟨s0,s1,s2,s3,s4,s5⟩:=aI.out W1 HB1.out;have TG:=hid (O8 l AS cS l.length f _ W1 rfl (HG.out.any HB1.out) (HV.out _ HB1.out) (yM.out.below HB1.out yM.out.pos) (J3.out.below HB1.out J3.out.pos))
 by_cases he:lU l f=0
 ·rw[he]at TG
  go_wp2_with (go_at_call 133;(with_reducible refine TG.out.mono ?_);rintro e W2 ⟨rfl,hb2⟩;have HB2:=hid (au HB1.out hb2);clear hb2)
  go_ret
  exact⟨rfl,HB2.out⟩
 ·obtain⟨z,hz⟩:∃z,lU l f=z:=⟨_,rfl⟩
  rw[hz]at TG he;have d1:(z==0)=false:=cu he;clear hz;go_upto_region 5 with(go_at_call 133;(with_reducible refine TG.out.mono ?_);rintro e W2 ⟨rfl,hb2⟩;have HB2:=hid (au HB1.out hb2);clear hb2 s0 s1 s2 s3 s4 s5)
  obtain⟨s0,s1,s2,s3,s4,s5⟩:=aI.out W2 HB2.out;have qeX:=hid (yV f _ W2 (HV.out _ HB2.out) (yM.out.below HB2.out yM.out.pos) (J3.out.below HB2.out J3.out.pos));obtain⟨g,hgz⟩:∃g,gZ f=g:=⟨_,rfl⟩;rw[hgz]at qeX HL;have d2:(g.op != 0)=true:=by rw[bne,cu HL.out];rfl
  clear hgz;have hfo:=BZ
  go_wp2_with (first
   | (go_at_call 88;(with_reducible refine qeX.out.mono ?_);rintro e W3 ⟨kv,rfl,hb3,A3,c3,rfl,wJ⟩;have HB3:=hid (au HB2.out hb3);clear hb3 wJ)
   | (go_at_call 134;(refine(VP l f J5.out _ aW AS cS l.length fb fo A c _ rfl (HG.out.any HB3.out) (HF.out.old.keep (Keeps.of_below HB3.out λ _ h=>h))).mono ?_);rintro e W4 ⟨rfl,hb4⟩;have HB4:=hid (au HB3.out hb4);clear hb4))
  go_ret
  exact⟨rfl,HB4.out⟩
end Go.Proofs.YtdpbgcmfeajigaaGreatDoor
namespace Go.Proofs.YtdpbgcmfeajigaaGreatDoor
open Go.RowKit Go.Shelf
attribute [local go_sem] ak run_store_func Oper.semAt_some
def zY (w:World)(b:Nat)(zs:List Int):Prop:=w.heap[b]?=some (.cells (zs.map (Value.int .i64)).toArray 3 (0,0))
theorem zY.rd {w:World}{b:Nat}{zs:List Int}(h:zY w b zs)(hn:zs.length<=1000000){D:Dom}(hD:D b):jm w D (some ⟨b,0,none⟩) zs.length zs :=
 zK h hD (by simp) (by omega)
theorem zY.set {w:World}{b j:Nat}{zs:List Int}(h:zY w b zs)(x:Int):zY (w.setCell ⟨b,j,none⟩ (.int .i64 x)) b (zs.set j x):=by
 unfold zY;rw[aB h];simp[List.map_set]
theorem zY.below {w w':World}{b:Nat}{zs:List Int}(h:zY w b zs)(hb:Below w.heap.size w w'):zY w' b zs:=(hb.block _ (lt_of_block h)).trans h
theorem qew (n:Nat):He (.int .i64 0) n 3 = .cells ((List.replicate n (0:Int)).map (Value.int .i64)).toArray 3 (0,0):=by
 unfold He;simp
theorem Tc (n:Nat)(hn:n<=1000000)(w:World):(Instr.makeSlice 35 (.int .i64 (n:Int)) (.int .i64 (n:Int))).run Tryz.prog w = .ok (.slice (some ⟨w.heap.size,0,none⟩) n n) (w.alloc (He (.int .i64 0) n 3)):=by
 obtain⟨i0,hti,hz0,hz1,hz2⟩:=info_parts qR;exact oN _ _ i0 _ 8 Tryz.underlying35 hti hz0 hz1 hz2 rfl .i64 .i64 n (by omega) (by omega) w
def yO (n:Nat)(u:Nat->Int)(k:Nat):List Int:=(List.range n).map λ j=>if j<k then u j else 0
theorem WB (n:Nat)(u:Nat->Int):yO n u 0=List.replicate n 0:=by
 unfold yO;apply List.ext_getElem?;intro j
 by_cases h:j<n <;> simp[h,List.getElem?_replicate]
theorem Gn (n:Nat)(u:Nat->Int)(k:Nat):(yO n u k).length=n:=by unfold yO;simp
theorem ZL (n:Nat)(u:Nat->Int)(k:Nat):(yO n u k).set k (u k)=yO n u (k+1):=by
 apply List.ext_getElem?;intro j;rw[List.getElem?_set,Gn]
 by_cases h:k=j
 ·subst h
  by_cases hk:k<n
  ·simp[yO,hk]
  ·simp[yO,hk]
 ·rw[if_neg h]
  by_cases hj:j<n
  ·have:(j<k+1)=(j<k):=by apply propext;omega
   simp[yO,hj,this]
  ·simp[yO,hj]
theorem qbV {n:Nat}{u:Nat->Int}{i:Nat}(h:i<n):(yO n u n).getD i 0=u i:=by unfold yO;simp[List.getD,h]
def y9 (l:List Sg)(W:iV)(t:Nat):List Int:=yO l.length (λ i=>gy l (aP W t) i) l.length
structure Xw (w:World) (ax base:Nat) (yP:Option Addr) (yX:Nat) (l:List Sg) (W:iV) (k:Nat):Prop where
 ex:∃(A:Option Addr) (c:Nat) (sl:Nat->Option Addr×Nat),
  w.heap[ax]?=some (.cells #[.slice yP l.length yX,.slice A k c,.int .i64 (W.stem.length:Int),.int .i64 0,.int .i64 0] 137 (0,0)) /\
  w.ownsRow base 35 1 (.slice A k c) k ((List.range k).map λ j => .slice (sl j).1 l.length (sl j).2) /\
  (∀g,(Value.slice A k c).ownBlock=some g->base<=g) /\
  ∀j,j<k->jm w (λ b=>base<=b/\some b≠(Value.slice A k c).ownBlock) (sl j).1 (sl j).2 (y9 l W j)
theorem yK (l:List Sg)(W:iV)(t:Nat):(y9 l W t).length=l.length:=Gn ..
theorem Xw.step {w w6:World}{ax base vb:Nat}{yP:Option Addr}{yX:Nat}{l:List Sg}{W:iV}{k c c':Nat}{A A':Option Addr}{sl:Nat->Option Addr×Nat}{o:Obj}
  (h1:w.heap[ax]?=some (.cells #[.slice yP l.length yX,.slice A k c,.int .i64 (W.stem.length:Int),.int .i64 0,.int .i64 0] 137 (0,0)))
  (h3:∀g,(Value.slice A k c).ownBlock=some g->base<=g) (h4:∀j,j<k->jm w (λ b=>base<=b/\some b≠(Value.slice A k c).ownBlock) (sl j).1 (sl j).2 (y9 l W j))
  (hax:ax<base) (hvb:zY w vb (y9 l W k)) (qgI:base<=vb/\(Value.slice A k c).ownBlock≠some vb) (hl:l.length<=1000000) (hbs:base<=w.heap.size)
  (g6:(w.alloc o).grownBy w6 (Value.slice A k c).ownBlock) (o6:w6.ownsRow base 35 1 (.slice A' (k+1) c') (k+1) (((List.range k).map λ j=>Value.slice (sl j).1 l.length (sl j).2) ++ [.slice (some ⟨vb,0,none⟩) l.length l.length]))
  (a6:(Value.slice A' (k+1) c').ownBlock=(Value.slice A k c).ownBlock\/(Value.slice A' (k+1) c').ownBlock=some (w.alloc o).heap.size) :
  Xw (w6.setCell ⟨ax,1,none⟩ (.slice A' (k+1) c')) ax base yP yX l W (k+1)/\aH (λ b=>b=ax\/base<=b) w (w6.setCell ⟨ax,1,none⟩ (.slice A' (k+1) c')):=by
 have hcw:aH (λ b=>(Value.slice A k c).ownBlock=some b) w w6:=((aH.refl _ w).alloc o).grown g6 (λ g hg _=>hg);have hb6:w6.heap[ax]?=some (.cells #[.slice yP l.length yX,.slice A k c,.int .i64 (W.stem.length:Int),.int .i64 0,.int .i64 0] 137 (0,0)):=hcw.box h1 (λ e=>by have:=h3 _ e;omega);have hset:aH (λ b=>b=ax) w6 (w6.setCell ⟨ax,1,none⟩ (.slice A' (k+1) c')):=(aH.refl _ _).set _ _ λ _=>rfl
 have hnew:∀g,(Value.slice A' (k+1) c').ownBlock=some g->base<=g := λ g hg=>by
  rcases a6 with e|e <;> rw[e]at hg
  ·exact h3 g hg
  ·simp only[World.size_alloc,Option.some.injEq]at hg;omega
 have hkeep:∀b,b<w.heap.size->(Value.slice A k c).ownBlock≠some b->(Value.slice A' (k+1) c').ownBlock≠some b := λ b hb hne e=>by
  rcases a6 with e'|e' <;> rw[e']at e
  ·exact hne e
  ·simp only[World.size_alloc,Option.some.injEq]at e;omega
 refine⟨⟨A',c',λ j=>if j=k then(some ⟨vb,0,none⟩,l.length)else sl j,?_,?_,hnew,λ j hj=>?_⟩,?_⟩
 ·rw[aB hb6];rfl
 ·have:((List.range (k+1)).map λ j=>Value.slice (if j=k then(some ⟨vb,0,none⟩,l.length)else sl j).1 l.length (if j=k then(some ⟨vb,0,none⟩,l.length)else sl j).2)=((List.range k).map λ j=>Value.slice (sl j).1 l.length (sl j).2) ++ [.slice (some ⟨vb,0,none⟩) l.length l.length]:=by
   rw[List.range_succ,List.map_append,List.map_cons,List.map_nil,if_pos rfl]
   congr 1
   apply List.map_congr_left;intro j hj;have:=List.mem_range.1 hj;rw[if_neg (by omega)]
  rw[this];exact kX o6 hset (λ g hg e=>by have:=hnew g hg;omega)
 ·have hkk:Keeps (λ b=>b≠ax/\(Value.slice A k c).ownBlock≠some b) w (w6.setCell ⟨ax,1,none⟩ (.slice A' (k+1) c')) :=
   ⟨Nat.le_trans hcw.size hset.size,λ b hb hl=>(hset.block b (Nat.lt_of_lt_of_le hl hcw.size) hb.1).trans (hcw.block b hl hb.2)⟩
  by_cases e:j=k
  ·subst e
   have h:=hvb.rd (by rw[yK];exact hl) (D := λ b=>b=vb) rfl;rw[yK]at h;simp only[if_true];have hlt:=lt_of_block hvb;refine(h.keep ⟨hkk.size,λ b hb hl=>hkk.block b ⟨by omega,by rw[hb];exact qgI.2⟩ hl⟩).mono λ b hb _=>⟨by omega,?_⟩;rw[hb];exact λ e=>hkeep vb hlt qgI.2 e.symm
  ·simp only[e,if_false]
   have h:=h4 j (by omega);refine((h.mono (E := λ b=>(base<=b/\some b≠(Value.slice A k c).ownBlock)/\b<w.heap.size) λ b hb hl=>⟨hb,hl⟩).keep ⟨hkk.size,λ b hb hl=>hkk.block b ⟨by omega,λ e=>hb.1.2 e.symm⟩ hl⟩).mono λ b hb _=>⟨hb.1.1,λ e=>hkeep b hb.2 (λ e=>hb.1.2 e.symm) e.symm⟩
 ·exact(hcw.mono λ b _ hb => .inr (h3 b hb)).trans (hset.mono λ b _ hb => .inl hb)
end Go.Proofs.YtdpbgcmfeajigaaGreatDoor
namespace Go.Proofs.YtdpbgcmfeajigaaGreatDoor
open Go.RowKit Go.Shelf
attribute [local go_sem] ak run_store_func Oper.semAt_some
theorem QJ (A:Option Addr)(n c:Nat)(s:Int)(w:World):(Instr.build 137 #[(0,.slice A n c),(2,.int .i64 s)]).run Tryz.prog w = .ok (.agg #[.slice A n c,.slice none 0 0,.int .i64 s,.int .i64 0,.int .i64 0]) w:=run_build w 137 _ _ (by kernel_rfl)
theorem qbR {w:World}{base n size g:Nat}{e:TypeId}{v:Value}{xs:List Value}(h:w.ownsRow base e size v n xs)(hg:v.ownBlock=some g):g<w.heap.size:=by
 rcases h.2 with⟨rfl,_⟩|⟨g',cap,cur,rfl,hb,h1,_⟩
 ·simp[Value.ownBlock]at hg
 ·simp[Value.ownBlock]at hg;subst hg;exact lt_of_block h1
theorem WS:(Tryz.prog.info? 35).map (λ i=>(i.zero,i.size,i.bytes))=some (some (.slice none 0 0),1,24):=by kernel_rfl
theorem QF {D E F:Dom}(l:List Sg)(AS:Option Addr)(cS n:Nat)(f:Fm)(fb fo:Nat)(A:Option Addr)(c:Nat)(W:iV)(v:Value)(w:World)(hn:n=l.length)(hG:ng w E AS cS l)(hF:dU w D fb fo f A c)(hW:yT w F v W)(hk:GK w)
  (hf:dF W=true) (hsz:f.size<=100) (hvl:∀t,t<W.stem.length+W.loop.length->0<=aP W t/\aP W t<dh l) :
  Calls Tryz.prog 106 #[.slice AS n cS,.pointer (some ⟨fb,fo,none⟩),v] w λ e w'=>∃ax,e = .returned (.pointer (some ⟨ax,0,none⟩))/\jH w' aW ax l W (W.stem.length+eU f*W.loop.length)/\Below w.heap.size w w':=by
 subst hn;obtain⟨As,cs,Al,cl,rfl,hs,hl⟩:=hW;have HG:=hid hG;have HF:=hid hF;have HS:=hid hs.old;have HL:=hid hl.old;have HK:=hid hk;have X8:=hid hvl;have UG:=hid hf;have zS:=hid (lZ hf);have jI:=hid hsz;have hgl:=hG.len.1;have hsl:=hs.len.1;have hll:=hl.len.1
 have HLS:=hid (show l.length<=6 from by
  have h0:=hvl 0 (by have:=zS.out;omega)
  exact(gI (nI h0.1 h0.2).1).2.1)
 have hbx:=QJ AS l.length cS;clear hG hF hs hl hk hf hsz hvl;obtain⟨S,hS⟩:∃S,W.stem.length=S:=⟨_,rfl⟩;obtain⟨L,hL⟩:∃L,W.loop.length=L:=⟨_,rfl⟩;have Ez:=hid hS;have Xj:=hid hL;have w1:IntKind.i64.wrap ((S:Int)+(L:Int))=(S:Int)+(L:Int):=IntWalk.i64_in _ (by have:=zS.out;omega);rw[hS,hL];clear hS hL
 go_enter Tryz.func106,Tryz.ntmps106
 go_upto_region 2 with(fail)
 refine aC λ U hU=>?_;have HB:=hid (show Below w.heap.size w U by rw[hU];go_grown);have HX:=hid (show U.heap[w.heap.size]?=some (.cells #[.slice As S cs,.slice Al L cl] 37 (0,0))by rw[hU,aQ _ _ _ (by simp)];exact at_new _ _ _ rfl);have Pv:=hid (show U.heap[w.heap.size+1]?=some (.cells #[.slice AS l.length cS,.slice none 0 0,.int .i64 (S:Int),.int .i64 0,.int .i64 0] 137 (0,0))by rw[hU];exact at_new _ _ _ (by simp));have J8:=hid (show U.heap.size=w.heap.size+2 by rw[hU];simp);clear hU;have s0:=aj HX.out (i:=0) rfl;have s1:=aj HX.out (i:=1) rfl;have s2:=lt_of_block HX.out
 have PD:=hid (SH W ((S:Int)+(L:Int)) (.agg #[.slice As S cs,.slice Al L cl]) U (D:=aW) ⟨As,cs,Al,cl,by rw[Ez.out,Xj.out],HS.out.any HB.out,HL.out.any HB.out⟩ UG.out (by rw[Ez.out,Xj.out];omega));rw[Ez.out,Xj.out]at PD;go_wp2_with (go_at_call 135;(with_reducible refine PD.out.mono ?_);rintro e V ⟨Ap,cp,rfl,hp,hb⟩;have Qw:=hid hp;have iD:=hid hb;clear hp hb)
 obtain⟨N,hN⟩:∃N,N=S+L:=⟨_,rfl⟩;have HN:=hid hN;have lW:=hid (show N<=100/\1<=L/\S<=60/\L<=40 by have:=zS.out;rw[Ez.out,Xj.out]at this;omega);obtain⟨base,hbase⟩:∃base,base=V.heap.size:=⟨_,rfl⟩;have L6:=hid hbase;have HVW:=hid (au HB.out iD.out);have bH:=hid (show w.heap.size+2<=base by rw[hbase];have:=iD.out.size;have:=J8.out;omega);have HAX2:=hid ((iD.out.block _ (lt_of_block Pv.out)).trans Pv.out);have Ho:=hid ((iD.out.block _ (lt_of_block HX.out)).trans HX.out);rw[<-hN]at Qw⊢
 have h0:Xw V (w.heap.size+1) base AS cS l W 0:=⟨none,0,λ _=>(none,0),by rw[Ez.out];exact HAX2.out,by simpa using World.ownsRow_nil V base 35 1,λ g hg=>by simp[Value.ownBlock]at hg,λ j hj=>absurd hj (Nat.not_lt_zero _)⟩;have H0:=hid h0;clear h0 hN hbase s0 s1 s2 hbx w1;obtain⟨i0,hti,hz0,hz1,hz2⟩:=info_parts WS;have HTI:=hid hti;have HZ0:=hid hz0;have HZ1:=hid hz1;have HZ2:=hid hz2;clear hti hz0 hz1 hz2;have hmk:=Tc l.length (by have:=HLS.out;omega)
 go_loopw [28] (λ r wr=>∃k:Nat,k<=N/\r = .int .i64 (k:Int)/\Xw wr (w.heap.size+1) base AS cS l W k/\aH (λ b=>b=w.heap.size+1\/base<=b) V wr) (λ r _=>N-(intOf r).toNat)
 case atStart=>exact⟨0,Nat.zero_le _,by go_num,H0.out,aH.refl _ _⟩
 case round =>
  obtain⟨wk,hwk⟩:∃wk,wk=wr:=⟨_,rfl⟩;subst hwk;obtain⟨k,hk,rfl,hax,hc⟩:=hrel;have HA:=hid hax;have HC:=hid hc;have Xm:=hid (show Below (w.heap.size+1) V wk from hc.below (λ b hb h=>by have:=bH.out;omega) (by have:=bH.out;have:=L6.out;omega));clear hax hc
  by_cases hlt:k<N
  ·have hii:(k:Int)<(N:Int):=by omega
   have hii':(k:Int)<(S:Int)+(L:Int):=by have:=HN.out;omega
   have hi0:(0:Int)<=(k:Int):=by omega
   have wk1:IntKind.i64.wrap ((k:Int)+1)=(k:Int)+1:=IntWalk.i64_in _ (by have:=lW.out;omega);have hll2:=nH W N;obtain⟨bp,op,x,rfl,_,hlp,HY,y0⟩:=(Qw.out.keep (HC.out.keeps (λ b hb hg e=>by have:=J8.out;have:=L6.out;omega))).get (k:=k) (by rw[hll2];exact hlt);have HXL:=hid (show x=aP W k by rw[<-HY.out];exact NZ hlt);have HXB:=hid (X8.out k (by rw[Ez.out,Xj.out,<-HN.out];exact hlt));rw[<-HXL.out]at HXB;clear HY;go_upto_region 6 with(fail)
   refine aC λ W1 hW1=>?_;have HB1:=hid (show Below wk.heap.size wk W1 by rw[hW1];go_grown);obtain⟨vb,hvb⟩:∃vb,vb=wk.heap.size:=⟨_,rfl⟩;have HVB:=hid hvb;have HR1:=hid (show zY W1 vb (yO l.length (λ i=>gy l x i) 0)by rw[hW1,WB,hvb];unfold zY;rw[<-qew];exact at_new _ _ _ rfl);rw[<-hvb];clear hW1 hvb y0 hlp;go_wp2_with fail
   go_loopw [37] (λ r w3=>∃i:Nat,i<=l.length/\r = .int .i64 (i:Int)/\zY w3 vb (yO l.length (λ i=>gy l x i) i)/\Below wk.heap.size wk w3) (λ r _=>l.length-(intOf r).toNat)
   case atStart=>exact⟨0,Nat.zero_le _,rfl,HR1.out,HB1.out⟩
   case round =>
    obtain⟨i,hi,rfl,hr3,hb3⟩:=hrel;have HR3:=hid hr3;have HB3:=hid hb3;clear hr3 hb3
    by_cases hil:i<l.length
    ·have hii2:(i:Int)<(l.length:Int):=by omega
     have hi02:(0:Int)<=(i:Int):=by omega
     have HW3:=hid (show Below w.heap.size w _ from(HVW.out.trans (Xm.out.mono (Nat.le_succ _))).trans (HB3.out.mono (by have:=HC.out.size;have:=HVW.out.size;omega)));have aX:=hid (JO l AS l.length cS x i _ rfl (HG.out.any HW3.out) (HK.out.below HW3.out HK.out.pos) HXB.out.1 HXB.out.2 hil);go_wp2_with (go_at_call 102;(with_reducible refine aX.out.mono ?_);rintro e w4 ⟨rfl,hb4⟩;have HR4:=hid (HR3.out.below hb4);have HB4:=hid (au HB3.out hb4);have v1:=aA HR4.out (i:=i);have v2:=lt_of_block HR4.out;have v3:=aj HR4.out (i:=i) (u := .int .i64 ((yO l.length (λ i=>gy l x i) i).getD i 0)) (by simp[List.getD,Gn,hil]);clear hb4)
     go_roundw
     case rel=>exact⟨i+1,by omega,by go_num,by rw[<-ZL];exact HR4.out.set _,HB4.out.setCell (by rw[HVB.out];exact Nat.le_refl _) _⟩
     case measure=>simp[intOf];omega
    ·have hii2:¬(i:Int)<(l.length:Int):=by omega
     have hie:i=l.length:=by omega
     subst hie;have hrv:zY wr vb (y9 l W k):=by unfold y9;rw[<-HXL.out];exact HR3.out
     have LX:=hid hrv;obtain⟨A2,c2,sl,k1,k2,a3,k4⟩:=HA.out.ex;have HOL:=hid (show(Value.slice A2 k c2).ownBlock≠some vb from λ e=>by have:=qbR k2 e;have:=HVB.out;omega);have a1:=(HB3.out.block _ (lt_of_block k1)).trans k1;have a2:=kX k2 (V := λ _=>False) (aH.aS HB3.out) (λ _ _ h=>h);have a4 := λ j hj=>(k4 j hj).belowD HB3.out;clear k1 k2 k4;have HA1:=hid a1;have HA2:=hid a2;have pJ:=hid a3;have HA4:=hid a4;have HVB2:=hid (show vb<wr.heap.size from lt_of_block hrv);have zk:=hid (show V.heap.size<=wk.heap.size from HC.out.size);have y0:=aj a1 (i:=1) rfl;have y1:=aA a1 (i:=1);have y2:=lt_of_block a1;clear a1 a2 a3 a4 hrv hii2
     go_wp2_with (at_builtin;refine iK _ rfl (.tmp 52) (.tmp 54) 135 rfl base 35 i0 _ 1 24 Tryz.underlying135 HTI.out HZ0.out HZ1.out HZ2.out rfl (by omega) (.slice A2 k c2) k _ rfl (HA2.out.alloc _) _ (some ⟨wr.heap.size,0,none⟩) 1 1 _ rfl (Rd.cell1 (jS wr _ _ _ _ _ rfl rfl)) (by simp[Value.oneCell']) (by have:=lW.out;omega) (dJ (by have:=lW.out;omega)) (by have:=L6.out;have:=zk.out;have:=HB3.out.size;simp;omega) ?_;intro A' c' w6 hown6 Y0 YT;have XQ:=hid hown6;have HG6:=hid Y0;have qcQ:=hid YT;have Hf:=hid ((Y0.block _ (by simp;omega) (λ e=>by have:=pJ.out _ e.symm;have:=bH.out;omega)).trans ((aQ wr _ _ y2).trans HA1.out));have z0:=aA Hf.out (i:=1);have z1:=lt_of_block Hf.out;have z2:=aj Hf.out (i:=1) rfl;clear hown6 Y0 YT)
     go_roundw
     case rel =>
      have hst:=Xw.step (o := .cells #[.slice (some ⟨vb,0,none⟩) l.length l.length] 35) HA1.out pJ.out HA4.out (by have:=bH.out;omega) LX.out ⟨by have:=HVB.out;have:=L6.out;have:=zk.out;omega,HOL.out⟩ (by have:=HLS.out;omega) (by have:=L6.out;have:=zk.out;have:=HB3.out.size;omega) HG6.out XQ.out qcQ.out;exact⟨k+1,by have:=HN.out;omega,by go_num,hst.1,(HC.out.trans (aH.aS HB3.out)).trans hst.2⟩
     case measure=>have:=HN.out;simp[intOf];omega
  ·have hii:¬(k:Int)<(S:Int)+(L:Int):=by have:=HN.out;omega
   have hkn:k=N:=by omega
   subst hkn;obtain⟨A2,c2,sl,k1,k2,k3,k4⟩:=HA.out.ex;rw[Ez.out]at k1;have K1:=hid k1;have K2:=hid k2;have K3:=hid k3;have K4:=hid k4;have zk:=hid (show V.heap.size<=wk.heap.size from HC.out.size);have HWW:=hid (show Below w.heap.size w wk from HVW.out.trans (Xm.out.mono (Nat.le_succ _)));have HLX:=hid (HC.out.box Ho.out (λ h=>by have:=bH.out;omega));obtain⟨z,hz⟩:∃z,eU f=z:=⟨_,rfl⟩;have HZ:=hid (show z<=100 by rw[<-hz];exact Nat.le_trans (Oc f) jI.out)
   have HCN:Hid (∀W':World,Below wk.heap.size wk W'->Calls Tryz.prog 136 #[.pointer (some ⟨fb,fo,none⟩)] W' λ e w2=>e = .returned (.int .i64 (z:Int))/\Below wk.heap.size wk w2):=hid λ W' hb=>by
    rw[<-hz];exact(RY f (by have:=jI.out;omega) _ fb fo A c W' (HF.out.old.keep (Keeps.of_below (HWW.out.trans (hb.mono HWW.out.size)) λ _ h=>h))).mono λ e w2 h2=>⟨h2.1,au hb h2.2⟩
   have hzl:z*L<=4000:=Nat.le_trans (Nat.mul_le_mul HZ.out (show L<=40 from lW.out.2.2.2)) (by omega);obtain⟨zl,qbB⟩:∃zl,z*L=zl:=⟨_,rfl⟩;have e1:(z:Int)*(L:Int)=(zl:Int):=by rw[<-qbB];rfl
   have HZZ:=hid (show zl=eU f*L by rw[<-qbB,hz]);rw[qbB]at hzl;have w2:IntKind.i64.wrap (zl:Int)=(zl:Int):=IntWalk.i64_in _ (by omega);have w3:IntKind.i64.wrap ((S:Int)+(zl:Int))=(S:Int)+(zl:Int):=IntWalk.i64_in _ (by have:=lW.out;omega);have w4:IntKind.i64.wrap ((S:Int)+(zl:Int)+(L:Int))=(S:Int)+(zl:Int)+(L:Int):=IntWalk.i64_in _ (by have:=lW.out;omega)
   have aI:Hid (∀W':World,Below wk.heap.size wk W'->W'.cell? ⟨w.heap.size+1,2,none⟩=some (.int .i64 (S:Int))/\W'.cell? ⟨w.heap.size,1,none⟩=some (.slice Al L cl)):=hid λ W' hb =>
    ⟨aj ((hb.block _ (lt_of_block K1.out)).trans K1.out) (i:=2) rfl,aj ((hb.block _ (lt_of_block HLX.out)).trans HLX.out) (i:=1) rfl⟩
   have HI1:=hid (show Below wk.heap.size wk wk.drew from(Below.refl _ _).drew);have HI2:=hid (show∀i,Below wk.heap.size wk (wk.drewN i)from λ i=>(aU.n wk i).below _);obtain⟨s0,s1⟩:=aI.out wk (Below.refl _ _);have s2:=lt_of_block HLX.out;have s3:=lt_of_block K1.out;clear k1 k2 k3 k4 hz qbB;go_upto_region 13 with(fail)
   go_region_held3 (λ W':World=>W'.cell? ⟨w.heap.size+1,2,none⟩=some (.int .i64 (S:Int))/\W'.cell? ⟨w.heap.size,1,none⟩=some (.slice Al L cl))
    (first|exact aI.out _ hI|exact⟨aj (aB HB1.out _) (i:=2) rfl,(World.cell?_of_block (at_set (show w.heap.size≠w.heap.size+1 by omega))).trans (aI.out _ hI).2⟩|(go_keep;done))
    ((go_at_call 136;(with_reducible refine(HCN.out _ (by first|exact HI1.out|exact HI2.out _)).mono ?_);rintro e V1 ⟨rfl,hI⟩;have HB1:=hid ((hI.block _ (lt_of_block K1.out)).trans K1.out);have v1:=aA HB1.out (i:=3);have v2:=lt_of_block HB1.out;have v3:=aj HB1.out (i:=3) rfl))
   have HIV:=hid hI;obtain⟨V2,hV2⟩:∃V2,V2=V1.setCell ⟨w.heap.size+1,3,none⟩ (.int .i64 ((S:Int)+(zl:Int))):=⟨_,rfl⟩;rw[<-hV2];have B2:=hid (show V2.heap[w.heap.size+1]?=some (.cells #[.slice AS l.length cS,.slice A2 k c2,.int .i64 (S:Int),.int .i64 ((S:Int)+(zl:Int)),.int .i64 0] 137 (0,0))by rw[hV2,aB HB1.out];rfl);have B3:=hid (show V2.heap[w.heap.size]?=some (.cells #[.slice As S cs,.slice Al L cl] 37 (0,0))by rw[hV2,at_set (show w.heap.size≠w.heap.size+1 by omega)];exact(HIV.out.block _ (lt_of_block HLX.out)).trans HLX.out);have C2:=hid (show aH (λ b=>b=w.heap.size+1) wk V2 by rw[hV2];exact(aH.aS HIV.out).set _ _ λ _=>rfl);clear hV2 hI v1 v2 v3 s0 s1 s2 s3;have s0:=aj B2.out (i:=3) rfl
   have s1:=aj B3.out (i:=1) rfl;have s2:=lt_of_block B2.out;have s3:=lt_of_block B3.out;have s4:=aA B2.out (i:=4);have s5:=aj B2.out (i:=4) rfl;go_upto_region 14 with(fail)
   go_region_held3 (λ W':World=>W'.cell? ⟨w.heap.size+1,3,none⟩=some (.int .i64 ((S:Int)+(zl:Int)))/\W'.cell? ⟨w.heap.size,1,none⟩=some (.slice Al L cl))
    (first|exact⟨s0,s1⟩|exact⟨aj (aB B2.out _) (i:=3) rfl,(World.cell?_of_block (at_set (show w.heap.size≠w.heap.size+1 by omega))).trans s1⟩|(go_keep;done))
    (fail)
   obtain⟨V3,hV3⟩:∃V3,V3=(V2.setCell ⟨w.heap.size+1,4,none⟩ (.int .i64 ((S:Int)+(zl:Int)+(L:Int)))).drew:=⟨_,rfl⟩;rw[<-hV3]
   have B4:=hid (show V3.heap[w.heap.size+1]?=some (.cells #[.slice AS l.length cS,.slice A2 k c2,.int .i64 (S:Int),.int .i64 ((S:Int)+(zl:Int)),.int .i64 ((S:Int)+(zl:Int)+(L:Int))] 137 (0,0))by
    rw[hV3];show(V2.setCell ⟨w.heap.size+1,4,none⟩ (.int .i64 ((S:Int)+(zl:Int)+(L:Int)))).heap[w.heap.size+1]?=_
    rw[aB B2.out];rfl)
   have C3:=hid (show aH (λ b=>b=w.heap.size+1) wk V3 by rw[hV3];exact(C2.out.set _ _ λ _=>rfl).drew);clear hV3 s0 s1 s2 s3 s4 s5;go_wp2_with fail
   go_ret
   have hbf:Below w.heap.size w V3:=HWW.out.trans (C3.out.below (λ x hx=>by omega) HWW.out.size);have hva:((List.range k).map (y9 l W)).length=k:=by simp
   have hvi:∀t,t<k->((List.range k).map (y9 l W)).getD t []=y9 l W t := λ t ht=>by simp[List.getD,ht]
   have hNL:k=S+L:=HN.out;have hq:=lW.out;refine⟨w.heap.size+1,rfl,⟨trivial,by rw[Xj.out];omega,by rw[Xj.out,<-HZZ.out];omega,by rw[Ez.out];omega,AS,cS,A2,c2,(List.range k).map (y9 l W),?_,HG.out.any hbf,?_,by rw[hva,Ez.out,Xj.out];exact hNL,λ t ht=>?_⟩,hbf⟩
   ·unfold Ql
    rw[B4.out,hva,Ez.out,Xj.out,<-HZZ.out];rfl
   ·refine⟨(List.range k).map λ j => .slice (sl j).1 l.length (sl j).2,?_,λ i hi=>?_⟩
    ·have h:=Rd.own (kX K2.out C3.out (λ g hg e=>by have:=K3.out g hg;have:=bH.out;omega)) (D:=aW) (by omega) (λ _ _=>trivial)
     rw[hva];exact h
    ·rw[hva]at hi
     refine⟨(sl i).1,(sl i).2,?_,?_⟩
     ·rw[hvi i hi,yK];simp[hi]
     ·rw[hvi i hi]
      exact((K4.out i hi).keep (C3.out.keeps λ b hb hd e=>by have:=bH.out;omega)).mono λ _ _ _=>trivial
   ·rw[Ez.out,Xj.out,<-hNL]at ht
    rw[hvi t ht];exact⟨yK ..,λ i hi=>qbV hi⟩
end Go.Proofs.YtdpbgcmfeajigaaGreatDoor
namespace Go.Proofs.YtdpbgcmfeajigaaGreatDoor
open Go.RowKit Go.Shelf
attribute [local go_sem] ak run_store_func Oper.semAt_some
theorem IG {l:List Int}{m:Int}(h:dO l m=true){i:Nat}(hi:i<l.length):0<=l.getD i 0/\l.getD i 0<m:=by
 unfold dO at h;have:=List.all_eq_true.1 h (l.getD i 0) (by simp[List.getD,hi]);unfold pV at this;simpa using this
theorem LQ {m:Int}{W:iV}(h:iH m W=true)(t:Nat):0<=aP W t/\aP W t<m:=by
 unfold iH at h;rw[Bool.and_eq_true,Bool.and_eq_true]at h;have hf:=lZ h.1.1;unfold aP
 split
 ·rename_i ht
  exact IG h.1.2 ht
 ·exact IG h.2 (Nat.mod_lt _ (by omega))
theorem WT {D E F:Dom}(l:List Sg)(AS:Option Addr)(cS n:Nat)(f:Fm)(fb fo:Nat)(A:Option Addr)(c:Nat)(W:iV)(v:Value)(w:World)(hn:n=l.length)(hG:ng w E AS cS l)(hF:dU w D fb fo f A c)(hW:yT w F v W)(hg:GF w)(hk:GK w)
  (hf:wC l f) (hl:bf f=true) (hv:dN l=true) (hsz:f.size<=100) (hwd:iH (dh l) W=true) :
  Calls Tryz.prog 67 #[.slice AS n cS,.pointer (some ⟨fb,fo,none⟩),v] w λ e w'=>∃ax A2 c2,e = .returned (.tuple #[.pointer (some ⟨ax,0,none⟩),.slice A2 (W.stem.length+eU f*W.loop.length+W.loop.length) c2,.bool true]) /\
   jH w' aW ax l W (W.stem.length+eU f*W.loop.length)/\RdB w' aW A2 c2 (rC (W.stem.length+eU f*W.loop.length) W.loop.length (iw l W) f)/\(rC (W.stem.length+eU f*W.loop.length) W.loop.length (iw l W) f).length=W.stem.length+eU f*W.loop.length+W.loop.length/\Below w.heap.size w w':=by
 subst hn;obtain⟨As,cs,Al,cl,rfl,hs,hll⟩:=hW;have HG:=hid hG;have HF:=hid hF;have HS:=hid hs.old;have HL:=hid hll.old;have yM:=hid hg;have HK:=hid hk;have J5:=hid hf;have sW:=hid hl;have HV:=hid hv;have jI:=hid hsz;have HWD:=hid hwd;have hgl:=hG.len.1;clear hG hF hs hll hg hk hf hl hv hsz hwd;have pK:=hid (show∀W',Below w.heap.size w W'->yT W' aW (.agg #[.slice As W.stem.length cs,.slice Al W.loop.length cl]) W from λ W' hb=>⟨As,cs,Al,cl,rfl,HS.out.any hb,HL.out.any hb⟩);obtain⟨lz,hlz⟩:∃lz,dh l=lz:=⟨_,rfl⟩;have UL:=hid hlz;clear hlz
 go_enter Tryz.func67,Tryz.ntmps67
 go_upto_region 1 with(fail)
 refine aC λ U hU=>?_;have HB:=hid (show Below w.heap.size w U by rw[hU];go_grown);have HX:=hid (show U.heap[w.heap.size]?=some (.cells #[.slice As W.stem.length cs,.slice Al W.loop.length cl] 37 (0,0))by rw[hU];exact at_new _ _ _ rfl);clear hU
 have Mc:Hid (∀W':World,Below U.heap.size U W'->Calls Tryz.prog 105 #[.slice AS l.length cS,.pointer (some ⟨fb,fo,none⟩)] W' λ e w2=>e = .returned (.bool true)/\Below U.heap.size U w2):=hid λ W' hb =>
  have hbw:=au HB.out hb
  (H7 l AS cS l.length f fb fo A c W' rfl (HG.out.any hbw) (HF.out.old.keep (Keeps.of_below hbw λ _ h=>h)) J5.out sW.out HV.out (yM.out.below hbw yM.out.pos) (HK.out.below hbw HK.out.pos)).mono λ e w2 h2=>⟨h2.1,au hb h2.2⟩
 have HC2:Hid (∀W':World,Below U.heap.size U W'->Calls Tryz.prog 101 #[.slice AS l.length cS] W' λ e w2=>e = .returned (.int .i64 lz)/\Below U.heap.size U w2):=hid λ W' hb =>
  have hbw:=au HB.out hb
  (Jl lz UL.out rfl (HG.out.any hbw) (HK.out.below hbw HK.out.pos)).mono λ e w2 h2=>⟨h2.1,au hb h2.2⟩
 have Dk:Hid (∀W':World,Below U.heap.size U W'->Calls Tryz.prog 40 #[.int .i64 lz,.agg #[.slice As W.stem.length cs,.slice Al W.loop.length cl]] W' λ e w2=>e = .returned (.bool true)/\Below U.heap.size U w2):=hid λ W' hb=>by
  have hbw:=au HB.out hb;have h:=G9 lz W _ W' (pK.out _ hbw);rw[<-UL.out,HWD.out]at h;rw[<-UL.out];exact h.mono λ e w2 h2=>⟨h2.1,au hb h2.2⟩
 have aI:Hid (∀W':World,Below U.heap.size U W'->W'.cell? ⟨w.heap.size,0,none⟩=some (.slice As W.stem.length cs)/\W'.cell? ⟨w.heap.size,1,none⟩=some (.slice Al W.loop.length cl)):=hid λ W' hb =>
  ⟨aj ((hb.block _ (lt_of_block HX.out)).trans HX.out) (i:=0) rfl,aj ((hb.block _ (lt_of_block HX.out)).trans HX.out) (i:=1) rfl⟩
 have HI1:=hid (show Below U.heap.size U U.drew from(Below.refl _ _).drew);have HI2:=hid (show∀i,Below U.heap.size U (U.drewN i)from λ i=>(aU.n U i).below _);obtain⟨s0,s1⟩:=aI.out U (Below.refl _ _)
 go_region_held3 (λ W':World=>W'.cell? ⟨w.heap.size,0,none⟩=some (.slice As W.stem.length cs)/\W'.cell? ⟨w.heap.size,1,none⟩=some (.slice Al W.loop.length cl))
  (first|(with_reducible exact aI.out _ hI)|(go_keep;done))
  ((first
   | (go_at_call 105;(with_reducible refine(Mc.out _ (by first|exact hI|exact HI1.out|exact HI2.out _)).mono ?_);rintro e V1 ⟨rfl,hI⟩)
   | (go_at_call 101;(with_reducible refine(HC2.out _ (by first|exact hI|exact HI1.out|exact HI2.out _)).mono ?_);rintro e V2 ⟨rfl,hI⟩)
   | (go_at_call 40;(with_reducible refine(Dk.out _ (by first|exact hI|exact HI1.out|exact HI2.out _)).mono ?_);rintro e V3 ⟨rfl,hI⟩)))
 have HB1:=hid hI;clear hI s0 s1 HI1 HI2 Mc HC2 Dk;obtain⟨s0,s1⟩:=aI.out V3 HB1.out;have s2:w.heap.size<V3.heap.size:=World.block_lt_of_cell? _ _ s0;have aT:=hid (au HB.out HB1.out);have HAO:=hid (QF l AS cS l.length f fb fo A c W _ V3 rfl (HG.out.any aT.out) (HF.out.old.keep (Keeps.of_below aT.out λ _ h=>h)) (pK.out _ aT.out) (HK.out.below aT.out HK.out.pos) (by have h:=HWD.out;unfold iH at h;rw[Bool.and_eq_true,Bool.and_eq_true]at h;exact h.1.1) jI.out (λ t _=>LQ HWD.out t));go_upto_region 4 with(go_at_call 106;(with_reducible refine HAO.out.mono ?_);rintro e V4 ⟨ax,rfl,ha,hb4⟩;have HA4:=hid ha;have HB4:=hid (au aT.out hb4);clear ha hb4)
 have HRO:=hid (qbZ ax _ fb fo l W f A c V4 HA4.out (HF.out.old.keep (Keeps.of_below HB4.out λ _ h=>h)) J5.out);go_wp2_with (go_at_call 107;(with_reducible refine HRO.out.mono ?_);rintro e V5 ⟨A2,c2,rfl,h1,h2,h3⟩;have H1:=hid h1;have H2:=hid h2;have H3:=hid h3;clear h1 h2 h3)
 refine bodyPost_ret (v := .tuple #[.pointer (some ⟨ax,0,none⟩),.slice A2 (W.stem.length+eU f*W.loop.length+W.loop.length) c2,.bool true]) (by simp[results,Tryz.results67,go_sem]) rfl ⟨ax,A2,c2,rfl,?_,H1.out.mono λ _ _ _=>trivial,H2.out,au HB4.out H3.out⟩;exact(HA4.out.below H3.out).mono λ _ _ _=>trivial
end Go.Proofs.YtdpbgcmfeajigaaGreatDoor
namespace Go.Proofs.YtdpbgcmfeajigaaGreatDoor
open Go.RowKit Go.Shelf
attribute [local go_sem] ak run_store_func Oper.semAt_some
def pU (l:List Sg)(f:Fm)(W:iV)(t:Nat):Bool :=
 dP (rC (W.stem.length+eU f*W.loop.length) W.loop.length (iw l W) f) (fJ (W.stem.length+eU f*W.loop.length) W.loop.length t)
theorem uo {D E F:Dom}(l:List Sg)(AS:Option Addr)(cS n:Nat)(f:Fm)(W:iV)(fv v:Value)(t:Nat)(w:World)(hn:n=l.length)(hG:ng w E AS cS l)(hF:bI w D fv f)(hW:yT w F v W)(hg:GF w)(hk:GK w)
  (hf:wC l f) (hl:bf f=true) (hv:dN l=true) (hsz:f.size<=100) (hwd:iH (dh l) W=true) (ht:t<=10000) :
  Calls Tryz.prog 21 #[.slice AS n cS,fv,v,.int .i64 (t:Int)] w λ e w'=>e = .returned (.bool (pU l f W t))/\Below w.heap.size w w':=by
 subst hn;obtain⟨A,c,rfl,hA⟩:=hF;obtain⟨As,cs,Al,cl,rfl,hs,hll⟩:=hW;have HG:=hid hG;have HA:=hid hA.old;have HS:=hid hs.old;have HL:=hid hll.old;have yM:=hid hg;have HK:=hid hk;have J5:=hid hf;have sW:=hid hl;have HV:=hid hv;have jI:=hid hsz;have HWD:=hid hwd;have hgl:=hG.len.1;have d1:¬(t:Int)<0:=by omega
 have d2:decide ((t:Int)<0)=false:=decide_eq_false d1;have HHZ:=hid (show pU l f W t=dP (rC (W.stem.length+eU f*W.loop.length) W.loop.length (iw l W) f) (fJ (W.stem.length+eU f*W.loop.length) W.loop.length t)from rfl);obtain⟨b,hb⟩:∃b,W.stem.length+eU f*W.loop.length=b:=⟨_,rfl⟩;have HB0:=hid hb;rw[hb]at HHZ;clear hG hA hs hll hg hk hf hl hv hsz hwd hb
 go_enter Tryz.func21,Tryz.ntmps21
 go_upto_region 3 with(fail)
 refine aC λ U hU=>?_;have HB:=hid (show Below w.heap.size w U by rw[hU];go_grown);have uK:=hid (show U.heap[w.heap.size]?=some (.cells #[.int .i64 f.op,.string f.name,.int .i64 f.val,.int .i64 f.bound,.slice A f.args.length c] 24 (0,0))by rw[hU,aQ _ _ _ (by simp)];exact at_new _ _ _ rfl);have Ho:=hid (show U.heap[w.heap.size+1]?=some (.cells #[.slice As W.stem.length cs,.slice Al W.loop.length cl] 37 (0,0))by rw[hU];exact at_new _ _ _ (by simp));clear hU;have s0:=aj Ho.out (i:=0) rfl;have s1:=aj Ho.out (i:=1) rfl;have s2:=lt_of_block Ho.out
 have HHF:=hid (show dU U aW w.heap.size 0 f A c from⟨trivial,lt_of_block uK.out,aj uK.out (i:=0) rfl,aj uK.out (i:=1) rfl,aj uK.out (i:=2) rfl,aj uK.out (i:=3) rfl,aj uK.out (i:=4) rfl,(HA.out.keep (Keeps.of_below HB.out λ _ h=>h)).mono λ _ _ _=>trivial⟩);have HRO:=hid (WT l AS cS l.length f w.heap.size 0 A c W (.agg #[.slice As W.stem.length cs,.slice Al W.loop.length cl]) U (F:=aW) rfl (HG.out.any HB.out) HHF.out ⟨As,cs,Al,cl,rfl,HS.out.any HB.out,HL.out.any HB.out⟩ (yM.out.below HB.out yM.out.pos) (HK.out.below HB.out HK.out.pos) J5.out sW.out HV.out jI.out HWD.out);obtain⟨N,hN⟩:∃N,b+W.loop.length=N:=⟨_,rfl⟩;have HN:=hid hN;rw[HB0.out,hN]at HRO;clear hN
 go_upto_region 4 with(go_at_call 67;(with_reducible refine HRO.out.mono ?_);rintro e V ⟨ax,A2,c2,rfl,ha,hr,hrl,hbv⟩;have Pv:=hid ha;have HR:=hid hr;have pK:=hid hrl;have iD:=hid (au HB.out hbv);clear ha hr hrl hbv)
 have qgh:=Pv.out.hn;have hLp:=Pv.out.hL;have hpl:=lF (b:=b) (t:=t) hLp;rw[HN.out]at hpl qgh;obtain⟨q,hq⟩:∃q,fJ b W.loop.length t=q:=⟨_,rfl⟩;have HPL:=hid (yF ax b W.loop.length N t V HN.out.symm hLp (by omega) (by omega) Pv.out.cells.1 (by have h:=Pv.out.cells.2;rw[HN.out]at h;exact h));rw[hq]at hpl HPL HHZ;obtain⟨pb,po,y,rfl,_,hlb,HY,y0⟩:=HR.out.get (k:=q) (by rw[pK.out];exact hpl);have q1:(q:Int)<(N:Int):=by omega
 have q0:(0:Int)<=(q:Int):=by omega
 have HHR:=hid (show pU l f W t=y by rw[HHZ.out];exact HY.out);clear HY hq hpl qgh hLp;go_wp2_with (go_at_call 68;(with_reducible refine HPL.out.mono ?_);rintro e V2 ⟨rfl,hb2⟩;have k0:=(hb2.cell (p:=⟨pb,po+q,none⟩) hlb).trans y0;have k1:pb<V2.heap.size:=Nat.lt_of_lt_of_le hlb hb2.size;have HB2:=hid (au iD.out hb2);clear hb2)
 go_ret
 exact⟨aF HHR.out.symm,HB2.out⟩
end Go.Proofs.YtdpbgcmfeajigaaGreatDoor
namespace Go.Proofs.YtdpbgcmfeajigaaGreatDoor
theorem qb4 (l:List Sg)(W:iV)(hL:0<W.loop.length)(n:ByteArray)(v:Int):Per (λ t=>iw l W t n v) W.stem.length W.loop.length:=by
 intro t ht;show iw l W (t+W.loop.length) n v=iw l W t n v;unfold iw;rw[DR W hL t ht]
theorem Ji (l:List Sg)(f:Fm)(W:iV)(t:Nat)(hL:0<W.loop.length)(hb:Bare f):pU l f W t=cZ (iw l W) f t:=by
 obtain⟨h1,h2⟩:=qb3 (b:=W.stem.length+eU f*W.loop.length) (s:=W.stem.length) hL (qb4 l W hL) f hb (Nat.le_refl _);unfold pU dP;rw[h1.2 _ (lF hL),h2.place hL]
def Ya (l:List Sg)(f:Fm):Prop:=f.op=3->fK l f.name<l.length/\f.val<(l.getD (fK l f.name) default).size
inductive kP (l:List Sg):Fm->Prop
 | mk {f:Fm} (h:Ya l f) (ha:∀g,g∈f.args->kP l g):kP l f
theorem row_of {l:List Sg}(f:Fm)(hb:Bare f)(hs:f.size<=1000000)(hk:kP l f):wC l f:=by
 refine Fm.pW (P := λ f=>Bare f->f.size<=1000000->kP l f->wC l f) ?_ f hb hs hk;clear hb hs hk f;intro f ih hb hs hk;obtain⟨h,ha⟩:Ya l f/\∀g,g∈f.args->kP l g:=by cases hk;exact⟨by assumption,by assumption⟩
 have har:=lX hb;have hsz:=Fm.size_eq f;refine .mk ⟨?_,?_,λ e=>(h e).1,λ e=>(h e).2,λ e=>?_,λ e=>?_⟩ λ g hg=>ih g hg (hb.arg hg) (by have:=gq hg;omega) (ha g hg)
 ·unfold ZV
  rcases kT hb.node.1 with h|h|h
  ·unfold vC at h;omega
  ·omega
  ·omega
 ·have:=ji f.args
  omega
 ·rw[har.1 e];exact Nat.le_refl _
 ·rw[har.2 e];exact Nat.le_refl _
end Go.Proofs.YtdpbgcmfeajigaaGreatDoor
namespace Go.Proofs.YtdpbgcmfeajigaaGreatDoor
open Go.RowKit Go.Shelf
attribute [local go_sem] ak run_store_func Oper.semAt_some
theorem sN {f:Fm}(h:fU f=true):bf f=true:=by
 obtain⟨h1,h2,h3⟩:=RN h;exact N7 (by omega) (by omega) h3
theorem zG {D:Dom}(f:Fm)(fb fo:Nat)(A:Option Addr)(c:Nat)(w:World)(hF:dU w D fb fo f A c)(hg:GF w)(hk:GK w) :
  Calls Tryz.prog 42 #[.pointer (some ⟨fb,fo,none⟩)] w λ e w'=>e = .returned (.bool (bf f))/\Below w.heap.size w w':=by
 have HF:=hid hF;have yM:=hid hg;have J3:=hid hk;obtain⟨_,q1,p0,p1,p2,p3,p4,_⟩:=hF
 have HV:=hid (show∀W',Below w.heap.size w W'->bI W' (· < w.heap.size) (.agg #[.int .i64 f.op,.string f.name,.int .i64 f.val,.int .i64 f.bound,.slice A f.args.length c]) f from λ W' hb =>
  ⟨A,c,rfl,HF.out.old.args.keep (Keeps.of_below hb λ _ h=>h)⟩)
 have HIK:=hid (AP f _ w (HV.out w (Below.refl _ _)) hg hk);clear hg hk;cases hkn:fU f
 ·rw[hkn]at HIK
  obtain⟨g,hgz⟩:∃g,gZ f=g:=⟨_,rfl⟩
  have HR:=hid (show(g.op != 0)=bf f by
   rw[<-hgz];cases hl:bf f
   ·unfold gZ;rw[hl];rfl
   ·rw[bne,cu (Af hl)];rfl)
  have hfo:=BZ
  have aI:Hid (∀W':World,Below w.heap.size w W'->W'.cell? ⟨fb,fo,none⟩=some (.int .i64 f.op)/\W'.cell? ⟨fb,fo+1,none⟩=some (.string f.name)/\W'.cell? ⟨fb,fo+2,none⟩=some (.int .i64 f.val)/\W'.cell? ⟨fb,fo+3,none⟩=some (.int .i64 f.bound)/\W'.cell? ⟨fb,fo+4,none⟩=some (.slice A f.args.length c)/\fb<W'.heap.size):=hid λ W' hb =>
   ⟨(hb.cell (p:=⟨fb,fo,none⟩) q1).trans p0,(hb.cell (p:=⟨fb,fo+1,none⟩) q1).trans p1,(hb.cell (p:=⟨fb,fo+2,none⟩) q1).trans p2,(hb.cell (p:=⟨fb,fo+3,none⟩) q1).trans p3,(hb.cell (p:=⟨fb,fo+4,none⟩) q1).trans p4,Nat.lt_of_lt_of_le q1 hb.size⟩
  have HGZ:=hid hgz;clear hkn hgz
  go_enter Tryz.func42,Tryz.ntmps42
  go_wp2_with (first
   | (go_at_call 29;(with_reducible refine HIK.out.mono ?_);rintro e W1 ⟨rfl,hb1⟩;have HB1:=hid hb1;obtain⟨s0,s1,s2,s3,s4,s5⟩:=aI.out W1 hb1;clear hb1)
   | (go_at_call 88;(refine(yV f _ _ (HV.out _ HB1.out) (yM.out.below HB1.out yM.out.pos) (J3.out.below HB1.out J3.out.pos)).mono ?_);rintro e W3 ⟨kv,rfl,hb3,A3,c3,rfl,wJ⟩;have HB3:=hid (au HB1.out hb3);clear hb3 wJ))
  go_ret
  exact⟨aF (by rw[<-HR.out,<-HGZ.out]),HB3.out⟩
 ·rw[hkn]at HIK
  have HR:=hid (sN hkn);clear hkn
  go_enter Tryz.func42,Tryz.ntmps42
  go_wp2_with (go_at_call 29;(with_reducible refine HIK.out.mono ?_);rintro e W1 ⟨rfl,hb1⟩;have HB1:=hid hb1;clear hb1)
  go_ret
  exact⟨aF (by rw[HR.out]),HB1.out⟩
end Go.Proofs.YtdpbgcmfeajigaaGreatDoor
namespace Go.Proofs.YtdpbgcmfeajigaaGreatDoor
open Go.RowKit Go.Shelf
attribute [local go_sem] ak run_store_func Oper.semAt_some
theorem oM (o:Int)(w:World):Calls Tryz.prog 91 #[.int .i64 o] w λ e w'=>e = .returned (.bool (jV o))/\w'=w:=by
 by_cases h1:o=15
 ·subst h1
  go_enter Tryz.func91,Tryz.ntmps91
  go_wp2_with fail
  go_ret
  exact⟨rfl,rfl⟩
 ·by_cases h2:o=16
  ·subst h2
   go_enter Tryz.func91,Tryz.ntmps91
   go_wp2_with fail
   go_ret
   exact⟨rfl,rfl⟩
  ·by_cases h3:o=17
   ·subst h3
    go_enter Tryz.func91,Tryz.ntmps91
    go_wp2_with fail
    go_ret
    exact⟨rfl,rfl⟩
   ·have d1:(o==15)=false:=cu h1
    have d2:(o==16)=false:=cu h2;have d3:(o==17)=false:=cu h3
    have HR:=hid (show jV o=false by
     cases h:jV o
     ·rfl
     ·rcases pF.1 h with h|h|h <;> contradiction)
    clear h1 h2 h3
    go_enter Tryz.func91,Tryz.ntmps91
    go_wp2_with fail
    go_ret
    exact⟨by rw[HR.out];rfl,rfl⟩
def findF (gs:List Fm)(g:Fm):Int:=if g∈gs then(jU g gs:Int)else -1
theorem IY {gs:List Fm}{g:Fm}{k:Nat}(hk:k<gs.length)(h:gs.getD k default=g)(hm:∀j,j<k->gs.getD j default≠g):findF gs g=(k:Int):=by
 have hg:g∈gs:=by rw[<-h];exact dA hk
 unfold findF;rw[if_pos hg,Ul hk h hm]
theorem FD {gs:List Fm}{g:Fm}(h:∀j,j<gs.length->gs.getD j default≠g):findF gs g = -1:=by
 unfold findF;rw[if_neg];intro hg;have h1:=qw.2 hg;exact h _ h1 (oL h1)
theorem uf {D E:Dom}(gs:List Fm)(A:Option Addr)(c n:Nat)(g:Fm)(b o:Nat)(A2:Option Addr)(c2:Nat)(w:World)(hn:n=gs.length)(h:bZ w D gs A c)(h2:dU w E b o g A2 c2)(hs:∀f,f∈gs->f.size<=1000000)(hcl:(∀b,D b->Cl w b)\/(∀b,E b->Cl w b)) :
  Calls Tryz.prog 44 #[.slice A n c,.pointer (some ⟨b,o,none⟩)] w λ e w'=>e = .returned (.int .i64 (findF gs g))/\gV w w':=by
 subst hn;have HR:=hid (h.mono (E := λ k=>D k/\k<w.heap.size) λ k hk hl=>⟨hk,hl⟩);have HG:=hid (h2.mono (E := λ k=>E k/\k<w.heap.size) λ k hk hl=>⟨hk,hl⟩);have HS:=hid hs;have Md:=hid hcl;have hgl:=h.len.1;clear h h2 hs hcl
 go_enter Tryz.func44,Tryz.ntmps44
 go_wp2_with fail
 go_loopw [8] (λ r wr=>∃k:Nat,k<=gs.length/\r = .int .i64 (k:Int)/\gV w wr/\(∀j,j<k->gs.getD j default≠g)) (λ r _=>gs.length-(intOf r).toNat)
 case atStart=>exact⟨0,Nat.zero_le _,rfl,by first|exact gV.refl _|exact gV.nJ ⟨1,rfl⟩,λ j h=>absurd h (Nat.not_lt_zero _)⟩
 case round =>
  obtain⟨i,hi,rfl,hb,hm⟩:=hrel;have gB:=hid hb;have HM:=hid hm;have X0:=hid (HR.out.keep (Keeps.of_below hb.below λ _ h=>h.2));have HGr:=hid (HG.out.keep (Keeps.of_below hb.below λ _ h=>h.2));clear hb hm
  by_cases hlt:i<gs.length
  ·have hii:(i:Int)<(gs.length:Int):=by omega
   obtain⟨b1,o1,A',c',f,rfl,HX,hf⟩:=X0.out.get hlt
   have hfm:f∈gs:=by
    have:=HX.out;rw[<-this];exact fV hlt
   have aI:Hid (∀W':World,gV wr W'->W'.cell? ⟨b1,o1+i*5,none⟩=some (.int .i64 f.op)/\W'.cell? ⟨b1,o1+i*5+1,none⟩=some (.string f.name)/\W'.cell? ⟨b1,o1+i*5+2,none⟩=some (.int .i64 f.val)/\W'.cell? ⟨b1,o1+i*5+3,none⟩=some (.int .i64 f.bound)/\W'.cell? ⟨b1,o1+i*5+4,none⟩=some (.slice A' f.args.length c')/\W'.cell? ⟨b,o,none⟩=some (.int .i64 g.op)/\W'.cell? ⟨b,o+1,none⟩=some (.string g.name)/\W'.cell? ⟨b,o+2,none⟩=some (.int .i64 g.val)/\W'.cell? ⟨b,o+3,none⟩=some (.int .i64 g.bound)/\W'.cell? ⟨b,o+4,none⟩=some (.slice A2 g.args.length c2)):=hid λ W' hb =>
    have hq:=hf.keep (Keeps.of_below hb.below λ k (hk:D k/\k<w.heap.size)=>Nat.lt_of_lt_of_le hk.2 gB.out.below.size);have he:=HGr.out.keep (Keeps.of_below hb.below λ k (hk:E k/\k<w.heap.size)=>Nat.lt_of_lt_of_le hk.2 gB.out.below.size)
    ⟨hq.c0,hq.c1,hq.c2,hq.c3,hq.c4,he.c0,he.c1,he.c2,he.c3,he.c4⟩
   have aX:Hid (∀W':World,gV wr W'->Calls Tryz.prog 16 #[.agg #[.int .i64 f.op,.string f.name,.int .i64 f.val,.int .i64 f.bound,.slice A' f.args.length c'],.agg #[.int .i64 g.op,.string g.name,.int .i64 g.val,.int .i64 g.bound,.slice A2 g.args.length c2]] W' λ e w'=>e = .returned (.int .i64 (f.cmp g))/\gV wr w'):=hid λ W' hb=>by
    refine(oV f g _ _ W' (bI.cells5 (hf.keep (Keeps.of_below hb.below λ k (hk:D k/\k<w.heap.size)=>Nat.lt_of_lt_of_le hk.2 gB.out.below.size)).args) (bI.cells5 (HGr.out.keep (Keeps.of_below hb.below λ k (hk:E k/\k<w.heap.size)=>Nat.lt_of_lt_of_le hk.2 gB.out.below.size)).args) (HS.out f hfm) ?_).mono ?_
    ·rcases Md.out with h|h
     ·exact .inl λ k hk=>(h k hk.1).of_eq ((gB.out.trans hb).below.block k hk.2)
     ·exact .inr λ k hk=>(h k hk.1).of_eq ((gB.out.trans hb).below.block k hk.2)
    ·rintro e w' ⟨rfl,hb'⟩
     exact⟨rfl,hb.trans hb'⟩
   have HI0:=hid (gV.refl wr);have HI1:=hid (show gV wr wr.drew from(gV.refl wr).drewN 1);have HI2:=hid (show∀i,gV wr (wr.drewN i)from λ i=>(gV.refl wr).drewN i);obtain⟨p0,p1,p2,p3,p4,r0,r1,r2,r3,r4⟩:=aI.out wr (gV.refl wr);have hbl:=Nat.lt_of_lt_of_le hf.dom.2 gB.out.below.size;have hwl:=Nat.lt_of_lt_of_le HGr.out.dom.2 gB.out.below.size;have hi0:(0:Int)<=(i:Int):=by omega
   clear hf;go_upto_region 4 with(fail)
   go_region_held3 (λ W':World=>W'.cell? ⟨b1,o1+i*5,none⟩=some (.int .i64 f.op)/\W'.cell? ⟨b1,o1+i*5+1,none⟩=some (.string f.name)/\W'.cell? ⟨b1,o1+i*5+2,none⟩=some (.int .i64 f.val)/\W'.cell? ⟨b1,o1+i*5+3,none⟩=some (.int .i64 f.bound)/\W'.cell? ⟨b1,o1+i*5+4,none⟩=some (.slice A' f.args.length c')/\W'.cell? ⟨b,o,none⟩=some (.int .i64 g.op)/\W'.cell? ⟨b,o+1,none⟩=some (.string g.name)/\W'.cell? ⟨b,o+2,none⟩=some (.int .i64 g.val)/\W'.cell? ⟨b,o+3,none⟩=some (.int .i64 g.bound)/\W'.cell? ⟨b,o+4,none⟩=some (.slice A2 g.args.length c2))
    (first|(with_reducible exact aI.out _ hI)|(go_keep;done))
    ((go_at_call 16;(with_reducible refine(aX.out _ (by first|exact HI0.out|exact HI1.out|exact HI2.out _)).mono ?_);rintro e W9 ⟨rfl,hI⟩))
   all_goals
    have aT:=hid (gB.out.trans hI);have mZ:=hid HX.out;have dX:=hid hlt;clear p0 p1 p2 p3 p4 r0 r1 r2 r3 r4 HX hI hlt hfm
    by_cases hc:f=g
    ·have hz:f.cmp g=0:=nC.2 hc
     have hz2:(f.cmp g==0)=true:=beq_iff_eq.2 hz;have HF:=hid (IY dX.out (mZ.out.trans hc) HM.out);clear hz hc;go_wp2_with fail
     go_ret
     exact⟨by rw[HF.out];rfl,aT.out⟩
    ·have hz2:(f.cmp g==0)=false:=cu λ h=>hc (nC.1 h)
     have HC:=hid hc;clear hc;go_wp2_with fail
     go_roundw
     case rel =>
      refine⟨i+1,by have:=dX.out;omega,by go_num,aT.out,λ j hj=>?_⟩
      by_cases hji:j<i
      ·exact HM.out j hji
      ·obtain rfl:j=i:=by omega
       rw[mZ.out];exact HC.out
     case measure=>have:=dX.out;simp[intOf];omega
  ·have hii:¬(i:Int)<(gs.length:Int):=by omega
   have HF:=hid (FD (gs:=gs) (g:=g) λ j hj=>HM.out j (by omega));clear hlt;go_wp2_with fail
   go_ret
   exact⟨by rw[HF.out];rfl,gB.out⟩
end Go.Proofs.YtdpbgcmfeajigaaGreatDoor
namespace Go.Proofs.YtdpbgcmfeajigaaGreatDoor
open Go.RowKit Go.Shelf
attribute [local go_sem] ak run_store_func
structure TN (l:Nat) (L:List Fm) (F:Fm) (fb fo:Nat) (Z:Dom) (B0 B1:Nat) (J:Nat->World->Prop):Prop where
 z:∀b,Z b->B0<=b/\(b<B1\/B1+2<=b)
 keep:∀k W W',J k W->aH (λ b=>B1<=b/\b<B1+2) W W'->J k W'
 step:∀k W b o A c,B1+2<=W.heap.size->J k W->k<L.length->dU W (· < B0) b o (L.getD k default) A c->((L.getD k default).size=F.size->b=fb/\o=fo) ->
  YieldAt Fence.wide 0 Tryz.prog l #[.pointer (some ⟨b,o,none⟩)] W λ e W'=>aH Z W W'/\e = .returned (.bool true)/\J (k+1) W'
structure UZ (w:World) (l yb vb:Nat):Prop where
 y:w.heap[yb]?=some (.cells #[.func (.yield l) #[] #[]] 66 (0,0))
 v:w.heap[vb]?=some (.cells #[.func (.func 90) #[] #[.pointer (some ⟨vb,0,none⟩),.pointer (some ⟨yb,0,none⟩)]] 66 (0,0))
theorem UZ.eu {w w':World}{l yb vb:Nat}{V:Dom}(h:UZ w l yb vb)(hc:aH V w w')(hy:¬V yb)(hv:¬V vb):UZ w' l yb vb:=⟨hc.box h.y hy,hc.box h.v hv⟩
theorem xw {l:List Fm}{i:Nat}(h:i<l.length):dM (l.take (i+1))=dM (l.take i)++aY (l.getD i default):=by
 rw[bP l default h,DY]
def wE (L:List Fm)(k:Nat)(M:List Fm):Prop:=(L.drop k).take M.length=M
theorem wE.left {L:List Fm}{k:Nat}{M N:List Fm}(h:wE L k (M++N)):wE L k M:=by
 unfold wE at h⊢;have h1:=congrArg (List.take M.length) h;rw[List.take_take,List.length_append,Nat.min_eq_left (Nat.le_add_right _ _),List.take_left]at h1;exact h1
theorem wE.right {L:List Fm}{k:Nat}{M N:List Fm}(h:wE L k (M++N)):wE L (k+M.length) N:=by
 unfold wE at h⊢;have h1:=congrArg (List.drop M.length) h;rw[List.drop_take,List.length_append,List.drop_drop,Nat.add_sub_cancel_left,List.drop_left]at h1;exact h1
theorem wE.one {L:List Fm}{k:Nat}{f:Fm}(h:wE L k [f]):k<L.length/\L.getD k default=f:=by
 unfold wE at h;have h1:=congrArg List.length h;rw[List.length_take,List.length_drop]at h1;have hk:k<L.length:=by simp at h1;omega
 refine⟨hk,?_⟩
 have h2:((L.drop k).take 1)[0]?=some f:=by
  have:=h;simp only[List.length_cons,List.length_nil]at this;rw[this];rfl
 rw[List.getElem?_take_of_lt (by omega),List.getElem?_drop]at h2;simp at h2;simp[List.getD,h2]
theorem ZY {L:List Fm}{k i:Nat}{f:Fm}(h:wE L k (dM f.args))(hi:i<f.args.length):wE L (k+(dM (f.args.take i)).length) (aY (f.args.getD i default)):=by
 have e:f.args=f.args.take (i+1)++f.args.drop (i+1):=(List.take_append_drop _ _).symm
 have e2:dM f.args=(dM (f.args.take i)++aY (f.args.getD i default))++dM (f.args.drop (i+1)):=by
  conv=>lhs;rw[e]
  have:∀l m:List Fm,dM (l++m)=dM l++dM m:=by
   intro l m
   induction l with
   | nil=>rfl
   | cons x l ih=>simp only[List.cons_append,dM,ih,List.append_assoc]
  rw[this,xw hi]
 rw[e2]at h;exact h.left.right
theorem VX {l:Nat}{L:List Fm}{F:Fm}{fb fo:Nat}{Z:Dom}{B0 B1:Nat}{J:Nat->World->Prop}(hR:TN l L F fb fo Z B0 B1 J)(yb vb:Nat)(hy:B1<=yb/\yb<B1+2)(hv:B1<=vb/\vb<B1+2)(f:Fm):∀(b o:Nat) (A:Option Addr) (c:Nat) (k:Nat) (w:World) (hf:dU w (· < B0) b o f A c) (hvb:UZ w l yb vb) (hs:B1+2<=w.heap.size) (hj:J k w) (hl:wE L k (aY f)) (hq:f.size<=F.size) (hq2:f.size=F.size->b=fb/\o=fo),
  Calls Tryz.prog 90 #[.pointer (some ⟨b,o,none⟩),.pointer (some ⟨vb,0,none⟩),.pointer (some ⟨yb,0,none⟩)] w λ e w'=>aH Z w w'/\e = .returned (.bool true)/\J (k+(aY f).length) w':=by
 refine Fm.pW (P := λ f=>∀(b o:Nat) (A:Option Addr) (c:Nat) (k:Nat) (w:World) (hf:dU w (· < B0) b o f A c) (hvb:UZ w l yb vb) (hs:B1+2<=w.heap.size) (hj:J k w) (hl:wE L k (aY f)) (hq:f.size<=F.size) (hq2:f.size=F.size->b=fb/\o=fo),
  Calls Tryz.prog 90 #[.pointer (some ⟨b,o,none⟩),.pointer (some ⟨vb,0,none⟩),.pointer (some ⟨yb,0,none⟩)] w λ e w'=>aH Z w w'/\e = .returned (.bool true)/\J (k+(aY f).length) w') ?_ f
 intro f ih b o A c k w hf hvb hs hj hl hq hq2;have HR:=hid hR;have HIH:=hid ih;have HH:=hid hf;have HV:=hid hvb;have HJ:=hid hj;have HL:=hid hl;have HQ:=hid hq;have HQ2:=hid hq2;have XT:=hid (xu f);have HNY:=hid (show¬Z yb from λ h=>by have:=hR.z _ h;omega);have Hl:=hid (show¬Z vb from λ h=>by have:=hR.z _ h;omega);have Ir:Hid (∀b,b<w.heap.size->b<B0->¬Z b):=hid λ b _ h hz=>by have:=hR.z _ hz;omega
 have hal:=hf.args.len.1;have BL:=hid hs;obtain⟨N,hN⟩:∃N,N=f.args.length:=⟨_,rfl⟩;have HN:=hid hN;obtain⟨_,hlw,_,_,_,_,p4,_⟩:=hf;rw[<-hN]at p4 hal;clear hR ih hvb hj hl hq hq2 hN hs
 go_enter Tryz.func90,Tryz.ntmps90
 go_wp2_with fail
 go_loopw [11] (λ q wr=>∃i:Nat,i<=N/\q = .int .i64 (i:Int)/\aH Z w wr/\J (k+(dM (f.args.take i)).length) wr) (λ q _=>N-(intOf q).toNat)
 case atStart=>exact⟨0,Nat.zero_le _,rfl,aH.refl _ _,by simpa[dM]using HJ.out⟩
 case round =>
  obtain⟨i,hi,rfl,hc,hj⟩:=hrel;have EL:=hid hc;have XJ:=hid hj;obtain⟨_,hlr,c0,_,_,_,Xn,ha'⟩:=HH.out.keep (hc.keeps Ir.out);have Pq:=hid ha';have zW:=hid (HV.out.eu hc HNY.out Hl.out);have ML:=hid (Nat.le_trans BL.out hc.size);rw[<-HN.out]at Xn;clear hc hj ha' p4
  by_cases uj:i<N
  ·have hii:(i:Int)<(N:Int):=by omega
   have hi0:(0:Int)<=(i:Int):=by omega
   have hlf:i<f.args.length:=by rw[<-HN.out];exact uj
   obtain⟨b1,o1,A1,c1,g,rfl,HX,hg⟩:=Pq.out.get hlf;have rO:=hid (show(dM (f.args.take (i+1))).length=(dM (f.args.take i)).length+(aY g).length by rw[xw hlf,HX.out,List.length_append])
   have XL:=hid (show wE L (k+(dM (f.args.take i)).length) (aY g)by
    have h1:=HL.out;rw[XT.out]at h1;have h2:=ZY h1.left hlf;rw[HX.out]at h2
    exact h2)
   have hgm:g∈f.args:=by rw[<-HX.out];exact dA hlf
   have hgs:g.size<F.size:=by have h1:=gq hgm;have h2:=HQ.out;rw[Fm.size_eq]at h2;omega
   have f0:=aj zW.out.v (i:=0) rfl;have hvl:=lt_of_block zW.out.v
   have aX:Hid (∀W',aU wr W'->Calls Tryz.prog 90 #[.pointer (some ⟨b1,o1+i*5,none⟩),.pointer (some ⟨vb,0,none⟩),.pointer (some ⟨yb,0,none⟩)] W' λ e W9=>aH Z wr W9/\e = .returned (.bool true)/\J (k+(dM (f.args.take (i+1))).length) W9):=hid λ W' hdw=>by
    have hbw:=hdw.below wr.heap.size;have hcd:aH (λ b=>B1<=b/\b<B1+2) wr W':=aH.aS hbw;refine(HIH.out g hgm b1 (o1+i*5) A1 c1 (k+(dM (f.args.take i)).length) W' (hg.keep hdw.keeps) ⟨(hbw.block _ (lt_of_block zW.out.y)).trans zW.out.y,(hbw.block _ (lt_of_block zW.out.v)).trans zW.out.v⟩ (Nat.le_trans ML.out hbw.size) (HR.out.keep _ _ _ XJ.out hcd) XL.out (by omega) (λ h=>by omega)).mono ?_;rintro e w' ⟨hc,hx,hj⟩;rw[rO.out,<-Nat.add_assoc];exact⟨(aH.aS (V:=Z) hbw).trans hc,hx,hj⟩
   have aI:Hid (∀W':World,aH Z wr W'->W'.cell? ⟨vb,0,none⟩=some (.func (.func 90) #[] #[.pointer (some ⟨vb,0,none⟩),.pointer (some ⟨yb,0,none⟩)])/\W'.cell? ⟨b,o+4,none⟩=some (.slice (some ⟨b1,o1,none⟩) N c)):=hid λ W' hc =>
    ⟨aj (zW.out.eu hc HNY.out Hl.out).v (i:=0) rfl,by have:=(HH.out.keep ((EL.out.trans hc).keeps Ir.out)).c4;rw[<-HN.out]at this;exact this⟩
   have Hg:=hid uj;clear hg hgm hgs HX c0 uj hlf;have HI0:=hid (aU.refl wr);have HI1:=hid (show aU wr wr.drew from(aU.refl wr).drew);have HI2:=hid (λ i=>aU.n wr i);go_upto_region 4 with(fail)
   go_region_held3 (λ W':World=>W'.cell? ⟨vb,0,none⟩=some (.func (.func 90) #[] #[.pointer (some ⟨vb,0,none⟩),.pointer (some ⟨yb,0,none⟩)])/\W'.cell? ⟨b,o+4,none⟩=some (.slice (some ⟨b1,o1,none⟩) N c))
    (first|(with_reducible exact aI.out _ hI)|(go_keep;done))
    ((go_at_call 90;with_reducible refine(aX.out _ (by first|exact HI0.out|exact HI1.out|exact HI2.out _)).mono ?_;rintro e W9 ⟨hI,rfl,hJ⟩))
   all_goals
    have Qo:=hid hI;have Xg:=hid hJ;clear hI hJ f0 Xn;go_wp2_with fail
    go_roundw
    case rel=>exact⟨i+1,by have:=Hg.out;omega,by go_num,EL.out.trans Qo.out,Xg.out⟩
    case measure=>have:=Hg.out;simp[intOf];omega
  ·have hie:f.args.take i=f.args:=List.take_of_length_le (by have:=HN.out;omega)
   have hnl:¬(i:Int)<(N:Int):=by omega
   have Xi:=hid (show J (k+(dM f.args).length) wr by have:=XJ.out;rw[hie]at this;exact this);clear hie uj;cases hrm:jV f.op
   ·have MC:=hid (show(aY f).length=(dM f.args).length by rw[XT.out,hrm];simp)
    have HRM:=hid hrm;clear hrm;go_upto_region 7 with(fail)
    have MJ:=hid (oM f.op wr);rw[HRM.out]at MJ;go_wp2_with (go_at_call 91;with_reducible refine MJ.out.mono ?_;rintro e W9 ⟨rfl,rfl⟩)
    go_ret
    exact⟨EL.out,rfl,by rw[MC.out];exact Xi.out⟩
   ·have MC:=hid (show(aY f).length=(dM f.args).length+1 by rw[XT.out,hrm];simp)
    have HONE:=hid (show wE L (k+(dM f.args).length) [f]by have h1:=HL.out;rw[XT.out,hrm]at h1;exact h1.right);obtain⟨hk1,hk2⟩:=HONE.out.one;obtain⟨yf,yt,ya,yb',Ro,Uh⟩:=HR.out.step (k+(dM f.args).length) wr b o A c ML.out Xi.out hk1 (by rw[hk2];exact HH.out.keep (EL.out.keeps Ir.out)) (by rw[hk2];exact HQ2.out);have y0:=aj zW.out.y (i:=0) rfl;have HRM:=hid hrm;have HR4:=hid Uh;have MJ:=hid (oM f.op wr);rw[HRM.out]at MJ;clear hrm hk1 hk2 Uh;go_upto_region 7 with(fail)
    refine(wpIn_wide (n:=1)).1 ?_;have hfd:Fence.wide.depth=none:=rfl;have NQ:Fence.wide.fn 91:=trivial
    gi_wp2_with (first|(gi_at_call 91;refine(callsIn_wide.2 MJ.out).mono ?_;rintro e W9 ⟨rfl,rfl⟩))
    refine HR4.out.mono ?_;rintro e w4 ⟨hc4,rfl,Ug⟩;have zN:=hid hc4;have HJ4:=hid Ug;clear hc4 Ug y0 Ro
    gi_wp2
    go_wp2_with fail
    go_ret
    exact⟨EL.out.trans zN.out,rfl,by rw[MC.out,<-Nat.add_assoc];exact HJ4.out⟩
end Go.Proofs.YtdpbgcmfeajigaaGreatDoor
namespace Go.Proofs.YtdpbgcmfeajigaaGreatDoor
open Go.RowKit Go.Shelf
attribute [local go_sem] ak run_store_func
theorem qbU {l:Nat}{Z:Dom}{B0 B1:Nat}{J:Nat->World->Prop}(f:Fm)(b o:Nat)(hR:TN l (aY f) f b o Z B0 B1 J)(pb:Nat)(A:Option Addr)(c:Nat)(w:World)
  (hw:w.heap.size=B1) (hBB:B0<=B1) (hf:dU w (· < B0) b o f A c) (hp:w.cell? ⟨pb,0,none⟩=some (.pointer (some ⟨b,o,none⟩))) (hj:J 0 w) :
  Calls Tryz.prog 89 #[.func (.yield l) #[] #[],.pointer (some ⟨pb,0,none⟩)] w λ e w'=>(∃v,e = .returned v)/\aH Z w w'/\J (aY f).length w':=by
 subst hw;have HR:=hid hR;have HH:=hid hf;have HJ:=hid hj;have hpl:=World.block_lt_of_cell? w _ hp;clear hR hf hj
 go_enter Tryz.func89,Tryz.ntmps89
 go_upto_region 2 with(fail)
 refine aC λ W hW=>?_;have hbw:Below w.heap.size w W:=by rw[hW];go_grown
 have e0:W.heap[w.heap.size]?=some (.cells #[.func (.yield l) #[] #[]] 66 (0,0)):=by
  rw[hW,aQ _ _ _ (by simp only[World.size_alloc];omega)];exact at_new _ _ _ rfl
 have e3:W.heap[w.heap.size+1]?=some (.cells #[.nilFunc] 66 (0,0)):=by
  rw[hW,at_new _ _ _ (by simp only[World.size_alloc])]
 have hws:W.heap.size=w.heap.size+2:=by rw[hW];simp only[World.size_alloc]
 have hp1:=(hbw.cell (p:=⟨pb,0,none⟩) hpl).trans hp;clear hW hp;have z0:=aj e3 (i:=0) rfl;have z1:=aA e3 (i:=0);have z2:=lt_of_block e3;have mW:=hid e0;have Iq:=hid e3;have aT:=hid hbw;have zk:=hid hws;have HPL:=hid hpl;have UR:=hid hp1;clear e0 e3 hbw hws hp1 hpl;go_upto_region 3 with(fail)
 refine aC λ W3 hW=>?_
 have hv3:UZ W3 l w.heap.size (w.heap.size+1):=by
  refine⟨?_,?_⟩
  ·rw[hW,Below.heap_setCell _ _ _ _ (by simp only[];omega)];exact mW.out
  ·rw[hW,aB Iq.out];rfl
 have hb3:Below w.heap.size w W3:=by
  rw[hW];exact aT.out.trans ((aH.set (V := λ k=>k=w.heap.size+1) (aH.refl _ W) _ _ λ _=>rfl).below (λ b hb=>by omega) aT.out.size)
 have hs3:W3.heap.size=w.heap.size+2:=by rw[hW];simpa using zk.out
 have f0:=aj hv3.v (i:=0) rfl
 have p0:W3.cell? ⟨pb,0,none⟩=some (.pointer (some ⟨b,o,none⟩)):=by
  rw[hW];exact(World.cell?_of_block (a:=⟨pb,0,none⟩) (Below.heap_setCell _ _ _ _ (by have h:pb<w.heap.size:=HPL.out;show pb≠w.heap.size+1;omega))).trans UR.out
 have aX:=hid (VX HR.out w.heap.size (w.heap.size+1) (by omega) (by omega) f b o A c 0 W3 (HH.out.keep (Keeps.of_below hb3 λ k (h:k<B0)=>by omega)) hv3 (by omega) (HR.out.keep _ _ _ HJ.out (aH.aS hb3)) (by unfold wE;rw[List.drop_zero,List.take_length]) (Nat.le_refl _) (λ _=>⟨rfl,rfl⟩));have HB3:=hid hb3;clear hW hv3 hb3 hs3 z0 z1 z2;go_wp2_with (first|(go_at_call 90;with_reducible refine aX.out.mono ?_;rintro e W9 ⟨hI,rfl,hJ⟩;have HI:=hid hI;have HJ9:=hid hJ;clear hI hJ))
 go_end0
 exact⟨⟨_,rfl⟩,(aH.aS HB3.out).trans HI.out,by have:=HJ9.out;rwa [Nat.zero_add]at this⟩
theorem zJ {g:Operand}{ps:Array Tmp}{assign body:Code}{Q:Exit->Act->World->Prop}{a:Act}{w:World}(f:Fm)(b o pb B0:Nat)(A:Option Addr)(c:Nat)(Z:Dom)(I:Nat->World->Prop)
  (hg:a.eval g = .func (.func 89) #[] #[.pointer (some ⟨pb,0,none⟩)]) (hps:ps.size=1)
  (hf:dU w (· < B0) b o f A c) (hBw:B0<=w.heap.size) (hp:w.cell? ⟨pb,0,none⟩=some (.pointer (some ⟨b,o,none⟩)))
  (hZ:∀b,Z b->B0<=b/\(b<w.heap.size\/w.heap.size+4<=b))
  (hI:∀k W W',I k W->aH (λ b=>w.heap.size<=b/\b<w.heap.size+4) W W'->I k W')
  (h0:I 0 w)
  (a₁ : Value->Act)
  (hassign:∀(l:Nat) (p:Value) (W:World) (K:Act->World->Prop),K (a₁ p) W ->
   assign.wpIn (Fence.wide.inRound l) 0 Tryz.prog (Exit.then K (λ _ _ _=>False)) { tmps:=(ps.zip #[p]).foldl (λ t (p,v)=>t.setIfInBounds p v) a.tmps,defers := [] } W)
  (dY:∀(l k:Nat) (W:World) (b' o':Nat) (A:Option Addr) (c:Nat),w.heap.size+4<=W.heap.size->aH Z w W->I k W->k<(aY f).length->dU W (· < B0) b' o' ((aY f).getD k default) A c->(((aY f).getD k default).size=f.size->b'=b/\o'=o) ->
   body.wpIn (Fence.wide.inRound l) 0 Tryz.prog (xM Z I (λ _ _=>False) k W) (a₁ (.pointer (some ⟨b',o',none⟩))) W)
  (hdone:∀W,aH Z w W->I (aY f).length W->W.heap[w.heap.size]?=some (.deferred (some []))->Q .normal { a with defers := { target := .collected w.heap.size,args := #[] } :: a.defers } W) :
  (Code.rangeFunc g ps assign body).wp Tryz.prog Q a w:=by
 refine(wpIn_wide (n:=3)).1 (wpIn_rangeFunc λ fn _=>?_);obtain⟨rec,hrec⟩:∃rec:LoopState->Option Code->Loop,rec = λ st pe => { state:=st,pending:=pe,fn,tmps:=a.tmps,params:=ps,assign,body,defers:=w.heap.size }:=⟨_,rfl⟩;obtain⟨W1,hW1⟩:∃W1,(w.alloc (.deferred (some []))).alloc (.loop (rec .ready none))=W1:=⟨_,rfl⟩;have hL1:W1.heap[w.heap.size+1]?=some (.loop (rec .ready none)):=by rw[<-hW1];exact at_new _ _ _ (by simp)
 have hK1:W1.heap[w.heap.size]?=some (.deferred (some [])):=by rw[<-hW1,aQ _ _ _ (by simp)];exact at_new _ _ _ rfl
 have hs1:W1.heap.size=w.heap.size+2:=by rw[<-hW1];simp
 have hb1:Below w.heap.size w W1:=by rw[<-hW1];exact((Below.refl _ w).alloc (Nat.le_refl _) _).alloc (by simp) _
 refine⟨w.heap.size+1,[{ target := .collected w.heap.size,args := #[] }],W1,{ target := .fn (.func 89) #[.pointer (some ⟨pb,0,none⟩)],args := #[.func (.yield (w.heap.size+1)) #[] #[]] },W1,89,
  #[.func (.yield (w.heap.size+1)) #[] #[]] ++ #[.pointer (some ⟨pb,0,none⟩)],W1,?_,?_,?_,?_,?_,?_⟩
 ·rw[<-hW1,hrec];exact run_enterLoop_outer _ _ _ _ _
 ·simp only[resolve,hg]
  simp[go_sem]
 ·exact λ f' _=>trivial
 ·simp[invoke,go_sem,enters_of Tryz.func89 (by kernel_rfl) rfl]
 ·intro hd;simp[Fence.wide]at hd
 ·have own:∀W W':World,aH (λ b=>w.heap.size+2<=b/\b<w.heap.size+4) W W'->aH (λ b=>w.heap.size<=b/\b<w.heap.size+4) W W' := λ W W' h=>h.mono λ b _ hb=>⟨by omega,hb.2⟩
  have oC:∀W W':World,aH (λ b=>b=w.heap.size+1) W W'->aH (λ b=>w.heap.size<=b/\b<w.heap.size+4) W W' := λ W W' h=>h.mono λ b _ hb=>by omega
  refine callsIn_wide.2 ((qbU (l:=w.heap.size+1) (Z := λ b=>Z b\/b=w.heap.size+1) (B0:=B0) (B1:=w.heap.size+2)
   (J := λ k W=>I k W/\aH Z w W/\W.heap[w.heap.size+1]?=some (.loop (rec .ready none))/\W.heap[w.heap.size]?=some (.deferred (some [])))
   f b o ⟨?_,?_,?_⟩ pb A c W1 hs1 (by omega) (hf.keep (Keeps.of_below hb1 λ k (hk:k<B0)=>by omega)) ?_ ⟨hI 0 w W1 h0 (aH.aS hb1),aH.aS hb1,hL1,hK1⟩).mono ?_)
  ·rintro b (hb|hb)
   ·have:=hZ b hb;exact⟨this.1,by omega⟩
   ·omega
  ·rintro k W W' ⟨hi,hc,hl,hk⟩ hw
   exact⟨hI k W W' hi (own _ _ hw),hc.trans' hw λ b _ hb=>by omega,hw.box hl (by omega),hw.box hk (by omega)⟩
  ·rintro k W b' o' A c hsz ⟨hi,hc,hl,hk⟩ hlen hfw hrt
   have hlt:w.heap.size+1<W.heap.size:=lt_of_block hl;have hy:=run_yield (P:=Tryz.prog) (args := #[.pointer (some ⟨b',o',none⟩)]) hl (by rw[hrec];exact hps.symm);rw[hrec]at hy;refine⟨fn,_,assign,body,hy,roundIn_of_wpIn trivial (hassign _ _ W _ ⟨_,run_beginRound hl (by rw[hrec]),?_⟩)⟩;obtain⟨Wb,Ri⟩:∃Wb,Wb=W.putObj (w.heap.size+1) (.loop { rec .ready none with state := .busy }):=⟨_,rfl⟩;rw[<-Ri];have hcb:aH (λ b=>b=w.heap.size+1) W Wb:=by rw[Ri];exact aH.putObj _ _ _
   have hl2:Wb.heap[w.heap.size+1]?=some (.loop { rec .ready none with state := .busy }):=by rw[Ri];exact World.putObj_heap_same hlt
   have hk2:Wb.heap[w.heap.size]?=some (.deferred (some [])):=hcb.box hk (by omega);have hsb:W.heap.size<=Wb.heap.size:=hcb.size;refine wpIn_mono (dY _ k Wb b' o' A c (by omega) (hc.trans' hcb λ b _ hb=>by omega) (hI _ _ _ hi (oC _ _ hcb)) hlen (hfw.keep (hcb.keeps λ k _ (hk:k<B0)=>by omega)) hrt) ?_
   have fin:∀(jump:Option Code) (W3:World),aH Z Wb W3 ->
     (Instr.endRound (w.heap.size+1) jump).run Tryz.prog W3 = .ok (.bool jump.isNone) (W3.putObj (w.heap.size+1) (.loop (rec (if jump.isNone then .ready else .done) jump))) /\
     aH (λ b=>b=w.heap.size+1) W3 (W3.putObj (w.heap.size+1) (.loop (rec (if jump.isNone then .ready else .done) jump))) /\
     aH (λ b=>Z b\/b=w.heap.size+1) W (W3.putObj (w.heap.size+1) (.loop (rec (if jump.isNone then .ready else .done) jump))) /\
     aH Z w (W3.putObj (w.heap.size+1) (.loop (rec (if jump.isNone then .ready else .done) jump))) /\
     (W3.putObj (w.heap.size+1) (.loop (rec (if jump.isNone then .ready else .done) jump))).heap[w.heap.size+1]?=some (.loop (rec (if jump.isNone then .ready else .done) jump)) /\
     (W3.putObj (w.heap.size+1) (.loop (rec (if jump.isNone then .ready else .done) jump))).heap[w.heap.size]?=some (.deferred (some [])) := λ jump W3 hc3=>by
    have hl3:=hc3.box hl2 (λ h=>by have:=hZ _ h;omega);have hk3:=hc3.box hk2 (λ h=>by have:=hZ _ h;omega);have hcp:=aH.putObj W3 (w.heap.size+1) (.loop (rec (if jump.isNone then .ready else .done) jump));have hr:=run_endRound (P:=Tryz.prog) jump hl3;rw[hrec]at hr hcp⊢;refine⟨hr,hcp,?_,?_,World.putObj_heap_same (lt_of_block hl3),hcp.box hk3 (by omega)⟩
    ·exact((hcb.mono λ b _ hb => .inr hb).trans (hc3.mono λ b _ hb => .inl hb)).trans (hcp.mono λ b _ hb => .inr hb)
    ·exact((hc.trans' hcb λ b _ hb=>by omega).trans hc3).trans' hcp λ b _ hb=>by omega
   rintro e a3 W3 hp
   cases e with
   | normal =>
    obtain⟨hc3,hi3⟩:=hp;obtain⟨hr,hcp,hcW,hcw,hl4,hk4⟩:=fin none W3 hc3;exact⟨_,_,hr,hcW,rfl,hI _ _ _ hi3 (oC _ _ hcp),hcw,hl4,hk4⟩
   | ret=>exact hp.2.elim
   | exit id=>exact hp.2.elim
   | goto t=>exact hp.2.elim
   | panic ch=>exact hp.elim
   | outgrown=>exact hp.elim
  ·exact(hb1.cell (p:=⟨pb,0,none⟩) (World.block_lt_of_cell? w _ hp)).trans hp
  ·rintro e W2 ⟨⟨v,rfl⟩,hc2,hi,hc,hl,hk⟩
   refine⟨none,_,by have:=run_endLoop (P:=Tryz.prog) hl (by rw[hrec];simp);rw[hrec]at this;exact this,?_⟩;have hcp:=aH.putObj W2 (w.heap.size+1) (.loop { rec .ready none with state := .exhausted });rw[hrec]at hcp;exact hdone _ (hc.trans' hcp λ b _ hb=>by omega) (hI _ _ _ hi (oC _ _ hcp)) (hcp.box hk (by omega))
theorem sQ (p:Option Addr)(w:World) :
  Calls Tryz.prog 43 #[.pointer p] w λ e w'=>e = .returned (.func (.func 89) #[] #[.pointer (some ⟨w.heap.size,0,none⟩)])/\w'=w.alloc (.cells #[.pointer p] 67):=by
 have hmf:∀(fn:Fn) (first cap:Array Value) (w:World),(Instr.makeFunc fn first cap).run Tryz.prog w = .ok (.func fn first cap) w := λ _ _ _ _=>rfl
 go_enter Tryz.func43,Tryz.ntmps43
 go_wp2_with fail
 go_ret
 exact⟨rfl,rfl⟩
end Go.Proofs.YtdpbgcmfeajigaaGreatDoor
namespace Go.Proofs.YtdpbgcmfeajigaaGreatDoor
open Go.RowKit Go.Shelf
attribute [local go_sem] ak run_store_func
def RU (ds:List Nat):List Deferred:=ds.map λ D => { target := .collected D,args := #[] }
structure oP (w:World) (ds:List Nat):Prop where
 nd:ds.Nodup
 at_:∀D,D∈ds->w.heap[D]?=some (.deferred (some []))
theorem oP.nil (w:World):oP w []:=⟨List.nodup_nil,λ _ h=>by cases h⟩
theorem oP.eu {w w':World}{ds:List Nat}{V:Dom}(h:oP w ds)(hc:aH V w w')(hv:∀D,D∈ds->¬V D):oP w' ds:=⟨h.nd,λ D hD=>(hc.block D (by have:=h.at_ D hD;exact(Array.getElem?_eq_some_iff.1 this).1) (hv D hD)).trans (h.at_ D hD)⟩
theorem oP.lt {w:World}{ds:List Nat}(h:oP w ds){D:Nat}(hD:D∈ds):D<w.heap.size:=(Array.getElem?_eq_some_iff.1 (h.at_ D hD)).1
theorem oP.cons {w:World}{ds:List Nat}{D:Nat}(h:oP w ds)(hD:w.heap[D]?=some (.deferred (some [])))(hn:¬D∈ds):oP w (D :: ds):=⟨List.nodup_cons.2 ⟨hn,h.nd⟩,λ E hE=>by
 rcases List.mem_cons.1 hE with rfl|hE
 ·exact hD
 ·exact h.at_ E hE⟩
theorem AU {P:Program}{fn:Func}{T:Array Value}{R:Ending->World->Prop}{v:Value}:∀(ds:List Nat) (w:World),oP w ds ->
  (∀w',aH (λ b=>b∈ds) w w'->(results fn T).run P w' = .ok v w')->(∀w',aH (λ b=>b∈ds) w w'->R (.returned v) w')->LeavesInM Fence.wide 3 P fn T R (RU ds) .returning w
 | [],w,hm,hr,h=>⟨v,hr w (aH.refl _ _),h w (aH.refl _ _)⟩
 | D :: ds,w,hm,hr,h=>by
  refine⟨by simp,.inl ⟨_,_,rfl,run_takeDeferred (hm.at_ D (by simp)),?_⟩⟩;have hc0:=aH.putObj w D (.deferred none);have hm':=(oP.eu (ds:=ds) ⟨(List.nodup_cons.1 hm.nd).2,λ E hE=>hm.at_ E (List.mem_cons_of_mem _ hE)⟩ hc0 λ E hE e=>(List.nodup_cons.1 hm.nd).1 (by subst e;exact hE));refine AU ds _ hm' (λ w' hc=>hr w' ?_) (λ w' hc=>h w' ?_)
  ·exact(hc0.mono λ b _ hb=>by subst hb;simp).trans (hc.mono λ b _ hb=>List.mem_cons_of_mem _ hb)
  ·exact(hc0.mono λ b _ hb=>by subst hb;simp).trans (hc.mono λ b _ hb=>List.mem_cons_of_mem _ hb)
theorem zB {P:Program}{fn:Func}{R:Ending->World->Prop}{a:Act}{w:World}{ds:List Nat}{v:Value}(hd:a.defers=RU ds)(hm:oP w ds)
  (hr:∀w',aH (λ b=>b∈ds) w w'->(results fn a.tmps).run P w' = .ok v w') (h:∀w',aH (λ b=>b∈ds) w w'->R (.returned v) w'):bodyPostM Fence.wide 3 P fn R .ret a w:=by
 show LeavesInM Fence.wide 3 P fn a.tmps R a.defers .returning w;rw[hd];exact AU ds w hm hr h
theorem I9 (A:Option Addr){n c k:Nat}(h:k<=c)(w:World):(Instr.slice 22 (.slice A n c) none (some (.int .i64 (k:Int))) none).run Tryz.prog w = .ok (.slice A k c) w:=by
 obtain⟨i0,hti,hz0,hz1,hz2⟩:=info_parts je;have ht:Tryz.prog.underlying 22=some (.slice 24):=Tryz.underlying22;have ht':Tryz.prog.underlying 22=some (.slice (Tryz.prog.elem 22)):=by simp[Program.elem,ht]
 have he:Tryz.prog.elem 22=24:=by simp[Program.elem,ht]
 have hsz:∀w,(Go.sizeOf 24).run Tryz.prog w = .ok 5 w := λ w=>by simp[sizeOf,typeInfo,hti,hz1]
 rw[run_slice_h w 22 _ _ _ ht' .i64 _ (by omega) (by omega),he,hsz]
 cases A <;> simp[Result.andThen,sliced,Addr.add]
theorem bZ.take {w:World}{D:Dom}{l:List Fm}{A:Option Addr}{c k:Nat}(h:bZ w D l A c)(hk:k<=l.length):bZ w D (l.take k) A c:=by
 obtain⟨sl,h1,h2,h3⟩:=h.out;have hl:(l.take k).length=k:=by rw[List.length_take];omega
 have hcells:bQ (l.take k) (sl.take k)=(bQ l sl).take (k*5):=by
  have e1:l=l.take k++l.drop k:=(List.take_append_drop k l).symm;have e2:sl=sl.take k++sl.drop k:=(List.take_append_drop k sl).symm;have e3:(sl.take k).length=(l.take k).length:=by rw[List.length_take,List.length_take,h1]
  conv=>rhs;rw[e1,e2]
  rw[oJ e3,List.take_left' (by rw[iM e3,hl])]
 refine .mk _ _ _ (sl.take k) (by rw[List.length_take,List.length_take,h1]) ?_ λ i hi=>?_
 ·rw[hl,hcells]
  exact h2.take hk
 ·rw[hl]at hi
  have e1:(l.take k).getD i default=l.getD i default:=zA hi;have e2:(sl.take k).getD i (none,0)=sl.getD i (none,0):=by simp only[List.getD_eq_getElem?_getD];rw[List.getElem?_take_of_lt hi]
  rw[e1,e2];exact h3 i (by omega)
theorem Gz {t u:TypeId}{a b:Value}{r:Bool}{P:Program}{w:World}(h:(binOp .eql t a b).run P w = .ok (.bool r) w)(hp:∃te,P.underlying t=some (.pointer te))(ha:∃p,a = .pointer p)(hb:∃p,b = .pointer p):(binOp .neq t a b).run P w = .ok (.bool (!r)) w:=by
 obtain⟨p,rfl⟩:=ha;obtain⟨q,rfl⟩:=hb;simp only[binOp]at h⊢
 generalize he:(Op.equal t (Value.pointer p) (Value.pointer q)).run P w=x at *
 simp[he]at h⊢
 cases x <;> simp_all [Result.andThen]
theorem CQ {w:World}{b o:Nat}:(binOp .neq 67 (.pointer (some ⟨b,o,none⟩)) (.pointer (some ⟨b,o,none⟩))).run Tryz.prog w = .ok (.bool false) w :=
 Gz (u:=0) tZ ⟨_,Tryz.underlying67⟩ ⟨_,rfl⟩ ⟨_,rfl⟩
theorem KN {w:World}{b o b' o':Nat}{v v':Value}(h:w.cell? ⟨b,o,none⟩=some v)(h':w.cell? ⟨b',o',none⟩=some v')(hc:Cl w b\/Cl w b')(hne:¬(b=b'/\o=o')) :
  (binOp .neq 67 (.pointer (some ⟨b,o,none⟩)) (.pointer (some ⟨b',o',none⟩))).run Tryz.prog w = .ok (.bool true) w :=
 Gz (u:=0) (Aj h h' hc hne) ⟨_,Tryz.underlying67⟩ ⟨_,rfl⟩ ⟨_,rfl⟩
theorem jw {l:List Fm}(h:lH l=true):l.length<=8/\∀i,i<l.length->jV (l.getD i default).op=true/\bf (l.getD i default)=true/\allB iC (l.getD i default)=true/\findF (l.take i) (l.getD i default) = -1/\∀g,g∈aY (l.getD i default)->g≠l.getD i default->0<=findF (l.take i) g:=by
 unfold lH at h;rw[Bool.and_eq_true,decide_eq_true_eq,iZ]at h;refine⟨h.1,λ i hi=>?_⟩;have h2:=h.2 i hi;simp only[Bool.and_eq_true,decide_eq_true_eq,List.all_eq_true]at h2;obtain⟨⟨⟨⟨a1,a2⟩,a3⟩,a4⟩,a5⟩:=h2;refine⟨a1,a2,a3,?_,λ g hg hne=>?_⟩
 ·unfold findF
  rw[if_neg];intro hm;have:=(Jj (g:=l.getD i default) (l:=l) (k:=i) (by omega)).1 (qw.2 hm);omega
 ·have h5:=a5 g hg
  have h6:jU g l≠i := λ e=>hne (by rw[<-e];exact(oL (by omega)).symm);have h7:g∈l.take i:=qw.1 ((Jj (by omega)).2 (by omega));unfold findF;rw[if_pos h7];omega
end Go.Proofs.YtdpbgcmfeajigaaGreatDoor
