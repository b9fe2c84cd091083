/-
  Parts of a proof: UB UC UD UE UF UG UH UI UJ UK UL UM.
-/
import Derived.Test.YtdpbgcmfeajigaaGreatDoorT26
set_option linter.unusedSimpArgs false
set_option linter.unusedVariables false
set_option maxHeartbeats 8000000
set_option maxRecDepth 100000
namespace Go.Proofs.YtdpbgcmfeajigaaGreatDoor
open Go.RowKit Go.Shelf
attribute [local go_sem] ak run_store_func Oper.semAt_some
theorem CJ:∀{l:List Fm},(∀g,g∈l->fB g<=g.size)->iD l<=sizes l
 | [],_=>Nat.zero_le _
 | f :: l,h=>by
  have h1:=h f (by simp);have h2:=CJ (l:=l) fun g hg=>h g (by simp[hg]);rw[iD,sizes];omega
theorem ND (f:Fm):fB f<=f.size:=by
 refine Fm.tV (P:=fun f=>fB f<=f.size) ?_ f;intro f ih;rw[tZ,Fm.size_eq];have:=CJ ih
 split <;> omega
theorem DT:∀(l:List Fm) (g:Fm),iD (l ++ [g])=max (iD l) (fB g)
 | [],g=>by simp[iD]
 | f :: l,g=>by simp only[List.cons_append,iD,DT l g];omega
theorem NG {l:List Fm}{k:Nat}(h:k<l.length):iD (l.take (k+1))=max (iD (l.take k)) (fB (l.getD k default)):=by
 rw[aU l default h,DT]
def qbs (f:Fm):Prop:=∀(D:Dom) (fb fo:Nat) (A:Option Addr) (c:Nat) (w:World),dR w D fb fo f A c ->
 Calls Tryz.prog 136 #[.pointer (some ⟨fb,fo,none⟩)] w fun e w'=>e = .returned (.int .i64 (fB f:Int))/\Below w.heap.size w w'
theorem Q7 (f:Fm)(hf:f.size<=1000000):qbs f:=by
 refine Fm.tV (P:=fun f=>f.size<=1000000->qbs f) ?_ f hf;clear hf f;intro f ih hf D fb fo A c w hF;have HF:=hid hF;have hal:=hF.args.len.1;obtain⟨_,q1,p0,p1,p2,_,p4,_⟩:=hF;obtain⟨N,hN⟩:∃N,N=f.args.length:=⟨_,rfl⟩;rw[<-hN]at p4 hal;have HN:=hid hN;have jE:=hid fun g (hg:g∈f.args)=>(show g.size<=1000000 by have:=gB hg;rw[Fm.size_eq]at hf;omega);have HIH:=hid fun g (hg:g∈f.args)=>ih g hg (jE.out g hg);have LK:=hid (show iD f.args+1<=1000001 by have:=CJ (l:=f.args) fun g _=>ND g;rw[Fm.size_eq]at hf;omega);have wu:=hid (tZ f);clear hf ih hN
 go_enter Tryz.func136,Tryz.ntmps136
 go_wp2_with fail
 go_loopw [3,10] (fun r3 r wr=>∃k:Nat,k<=N/\r = .int .i64 (k:Int)/\r3 = .int .i64 (iD (f.args.take k):Int)/\Below w.heap.size w wr) (fun _ r _=>N-(intOf r).toNat)
 case atStart=>exact⟨0,Nat.zero_le _,rfl,rfl,by go_grown⟩
 case round =>
  obtain⟨k,hk,rfl,rfl,hbl⟩:=hrel;have bJ:=hid hbl;clear hbl
  by_cases hlt:k<N
  ·have hii:(k:Int)<(N:Int):=by omega
   have hi0:(0:Int)<=(k:Int):=by omega
   have hlf:k<f.args.length:=by rw[<-HN.out];exact hlt
   obtain⟨b1,o1,A',c',g,rfl,HX,hg⟩:=(HF.out.old.keep (Keeps.of_below bJ.out fun _ h=>h)).args.get hlf;have aO:=hid (HIH.out g (by rw[<-HX.out];exact cO hlf) _ b1 (o1+k*5) A' c' wr hg);have HT:=hid (show iD (f.args.take (k+1))=max (iD (f.args.take k)) (fB g)by rw[NG hlf,HX.out]);have y4:=(bJ.out.cell (p:=⟨fb,fo+4,none⟩) q1).trans p4;have y5:fb<wr.heap.size:=Nat.lt_of_lt_of_le q1 bJ.out.size;obtain⟨a,ha⟩:∃a,iD (f.args.take k)=a:=⟨_,rfl⟩;obtain⟨z,hz⟩:∃z,fB g=z:=⟨_,rfl⟩;rw[hz]at HT aO;rw[ha]at HT⊢;clear HX hg ha hz;go_wp2_with (go_at_call 136;refine aO.out.mono ?_;rintro e W2 ⟨rfl,hb2⟩;have HB2:=hid hb2;clear hb2)
   go_roundw
   case rel=>exact⟨k+1,by omega,by go_num,by rw[HT.out];congr 1;omega,au bJ.out HB2.out⟩
   case measure=>simp[intOf];omega
  ·have hii:¬(k:Int)<(N:Int):=by omega
   have hkn:k=N:=by omega
   subst hkn;have Eb:=hid (show iD (f.args.take k)=iD f.args by rw[HN.out,List.take_length]);rw[Eb.out];obtain⟨z,hz⟩:∃z,iD f.args=z:=⟨_,rfl⟩;rw[hz]at wu LK⊢;have w1:IntKind.i64.wrap ((z:Int)+1)=(z:Int)+1:=IntWalk.i64_in _ (by have:=LK.out;omega);have y5:fb<wr.heap.size:=Nat.lt_of_lt_of_le q1 bJ.out.size;have y0:=(bJ.out.cell (p:=⟨fb,fo,none⟩) q1).trans p0;clear hz p0
   by_cases hp:15<=f.op/\f.op<=19
   ·have HR:=hid (show fB f=z+1 by rw[wu.out,if_pos hp])
    have h5:f.op=15\/f.op=16\/f.op=17\/f.op=18\/f.op=19:=by omega
    clear hp
    rcases h5 with e|e|e|e|e
    all_goals
     rw[e]at y0;clear e;go_wp2_with fail
     go_ret
     exact⟨bD (by rw[HR.out];rfl),bJ.out⟩
   ·have HR:=hid (show fB f=z by rw[wu.out,if_neg hp];rfl)
    have d1:(f.op==15)=false:=bW (by omega);have d2:(f.op==16)=false:=bW (by omega);have d3:(f.op==17)=false:=bW (by omega);have d4:(f.op==18)=false:=bW (by omega);have d5:(f.op==19)=false:=bW (by omega);clear hp;go_wp2_with fail
    go_ret
    exact⟨bD (by rw[HR.out]),bJ.out⟩
end Go.Proofs.YtdpbgcmfeajigaaGreatDoor
namespace Go.Proofs.YtdpbgcmfeajigaaGreatDoor
open Go.RowKit Go.Shelf
attribute [local go_sem] ak run_store_func Oper.semAt_some
theorem BN (o:Int)(n:ByteArray)(v b:Int)(A:Option Addr)(k c:Nat)(w:World):(Instr.field 24 (.agg #[.int .i64 o,.string n,.int .i64 v,.int .i64 b,.slice A k c]) 0).run Tryz.prog w = .ok (.int .i64 o) w:=by kernel_rfl
theorem zX {f:Fm}(h:bG f=true):(iC f).op≠0:=by
 rw[Ec h];obtain⟨h1,_,h3⟩:=iY h;have hb:Bare (bU f):=Bare.canon ⟨_,h3⟩ (TG (by omega));intro e
 rcases mQ hb.node.1 with hp|hp|hp
 ·rw[e]at hp
  unfold yB at hp;omega
 ·omega
 ·omega
theorem Hr {D E:Dom}(l:List Sg)(AS:Option Addr)(cS n:Nat)(f:Fm)(fb fo:Nat)(A:Option Addr)(c:Nat)(w:World)(hn:n=l.length)(hG:mG w E AS cS l)(hF:dR w D fb fo f A c)(hf:sO l f)(hl:bG f=true)(hv:dL l=true)(hg:GF w)(hk:GK w) :
  Calls Tryz.prog 105 #[.slice AS n cS,.pointer (some ⟨fb,fo,none⟩)] w fun e w'=>e = .returned (.bool true)/\Below w.heap.size w w':=by
 subst hn;have HG:=hid hG;have HF:=hid hF;have Lu:=hid hf;have HL:=hid (zX hl);have wo:=hid hg;have LJ:=hid hk;have hsl:=hG.len.1;have hal:=hF.args.len.1;have BD:=hid (vw l AS cS l.length w rfl hG hk);rw[hv]at BD;obtain⟨_,q1,p0,p1,p2,p3,p4,_⟩:=hF;obtain⟨v,hv0⟩:∃v,v=Value.agg #[.int .i64 f.op,.string f.name,.int .i64 f.val,.int .i64 f.bound,.slice A f.args.length c]:=⟨_,rfl⟩
 have HV:=hid (show∀W',Below w.heap.size w W'->bI W' (· < w.heap.size) (.agg #[.int .i64 f.op,.string f.name,.int .i64 f.val,.int .i64 f.bound,.slice A f.args.length c]) f from fun W' hb =>
  ⟨A,c,rfl,HF.out.old.args.keep (Keeps.of_below hb fun _ h=>h)⟩)
 have aI:Hid (∀W':World,Below w.heap.size w W'->W'.cell? ⟨fb,fo,none⟩=some (.int .i64 f.op)/\W'.cell? ⟨fb,fo+1,none⟩=some (.string f.name)/\W'.cell? ⟨fb,fo+2,none⟩=some (.int .i64 f.val)/\W'.cell? ⟨fb,fo+3,none⟩=some (.int .i64 f.bound)/\W'.cell? ⟨fb,fo+4,none⟩=some (.slice A f.args.length c)/\fb<W'.heap.size):=hid fun W' hb =>
  ⟨(hb.cell (p:=⟨fb,fo,none⟩) q1).trans p0,(hb.cell (p:=⟨fb,fo+1,none⟩) q1).trans p1,(hb.cell (p:=⟨fb,fo+2,none⟩) q1).trans p2,(hb.cell (p:=⟨fb,fo+3,none⟩) q1).trans p3,(hb.cell (p:=⟨fb,fo+4,none⟩) q1).trans p4,Nat.lt_of_lt_of_le q1 hb.size⟩
 clear hG hf hl hg hk hv p0 p1 p2 p3 p4 q1 hv0 v
 go_enter Tryz.func105,Tryz.ntmps105
 go_upto_region 3 with(go_at_call 84;(with_reducible refine BD.out.mono ?_);rintro e W1 ⟨rfl,hb1⟩;have HB1:=hid hb1;clear hb1)
 obtain⟨s0,s1,s2,s3,s4,s5⟩:=aI.out W1 HB1.out;have Sr:=hid (Ox l AS cS l.length f _ W1 rfl (HG.out.any HB1.out) (HV.out _ HB1.out) (wo.out.below HB1.out wo.out.pos) (LJ.out.below HB1.out LJ.out.pos))
 by_cases he:lG l f=0
 ·rw[he]at Sr
  go_wp2_with (go_at_call 133;(with_reducible refine Sr.out.mono ?_);rintro e W2 ⟨rfl,hb2⟩;have HB2:=hid (au HB1.out hb2);clear hb2)
  go_ret
  exact⟨rfl,HB2.out⟩
 ·obtain⟨z,hz⟩:∃z,lG l f=z:=⟨_,rfl⟩
  rw[hz]at Sr he;have d1:(z==0)=false:=bW he;clear hz;go_upto_region 5 with(go_at_call 133;(with_reducible refine Sr.out.mono ?_);rintro e W2 ⟨rfl,hb2⟩;have HB2:=hid (au HB1.out hb2);clear hb2 s0 s1 s2 s3 s4 s5)
  obtain⟨s0,s1,s2,s3,s4,s5⟩:=aI.out W2 HB2.out;have qdY:=hid (yO f _ W2 (HV.out _ HB2.out) (wo.out.below HB2.out wo.out.pos) (LJ.out.below HB2.out LJ.out.pos));obtain⟨g,hgz⟩:∃g,iC f=g:=⟨_,rfl⟩;rw[hgz]at qdY HL;have d2:(g.op != 0)=true:=by rw[bne,bW HL.out];rfl
  clear hgz;have hfo:=BN
  go_wp2_with (first
   | (go_at_call 88;(with_reducible refine qdY.out.mono ?_);rintro e W3 ⟨kv,rfl,hb3,A3,c3,rfl,vW⟩;have HB3:=hid (au HB2.out hb3);clear hb3 vW)
   | (go_at_call 134;(refine(U4 l f Lu.out _ aZ AS cS l.length fb fo A c _ rfl (HG.out.any HB3.out) (HF.out.old.keep (Keeps.of_below HB3.out fun _ h=>h))).mono ?_);rintro e W4 ⟨rfl,hb4⟩;have HB4:=hid (au HB3.out hb4);clear hb4))
  go_ret
  exact⟨rfl,HB4.out⟩
end Go.Proofs.YtdpbgcmfeajigaaGreatDoor
namespace Go.Proofs.YtdpbgcmfeajigaaGreatDoor
open Go.RowKit Go.Shelf
attribute [local go_sem] ak run_store_func Oper.semAt_some
def zO (w:World)(b:Nat)(zs:List Int):Prop:=w.heap[b]?=some (.cells (zs.map (Value.int .i64)).toArray 3 (0,0))
theorem zO.rd {w:World}{b:Nat}{zs:List Int}(h:zO w b zs)(hn:zs.length<=1000000){D:Dom}(hD:D b):qY w D (some ⟨b,0,none⟩) zs.length zs :=
 zG h hD (by simp) (by omega)
theorem zO.set {w:World}{b j:Nat}{zs:List Int}(h:zO w b zs)(x:Int):zO (w.setCell ⟨b,j,none⟩ (.int .i64 x)) b (zs.set j x):=by
 unfold zO;rw[aB h];simp[List.map_set]
theorem zO.below {w w':World}{b:Nat}{zs:List Int}(h:zO w b zs)(hb:Below w.heap.size w w'):zO w' b zs:=(hb.block _ (lt_of_block h)).trans h
theorem qdx (n:Nat):Il (.int .i64 0) n 3 = .cells ((List.replicate n (0:Int)).map (Value.int .i64)).toArray 3 (0,0):=by
 unfold Il;simp
theorem RJ (n:Nat)(hn:n<=1000000)(w:World):(Instr.makeSlice 35 (.int .i64 (n:Int)) (.int .i64 (n:Int))).run Tryz.prog w = .ok (.slice (some ⟨w.heap.size,0,none⟩) n n) (w.alloc (Il (.int .i64 0) n 3)):=by
 obtain⟨i0,hti,hz0,hz1,hz2⟩:=info_parts F5;exact su _ _ i0 _ 8 Tryz.underlying35 hti hz0 hz1 hz2 rfl .i64 .i64 n (by omega) (by omega) w
def yI (n:Nat)(u:Nat->Int)(k:Nat):List Int:=(List.range n).map fun j=>if j<k then u j else 0
theorem Vq (n:Nat)(u:Nat->Int):yI n u 0=List.replicate n 0:=by
 unfold yI;apply List.ext_getElem?;intro j
 by_cases h:j<n <;> simp[h,List.getElem?_replicate]
theorem Gm (n:Nat)(u:Nat->Int)(k:Nat):(yI n u k).length=n:=by unfold yI;simp
theorem YL (n:Nat)(u:Nat->Int)(k:Nat):(yI n u k).set k (u k)=yI n u (k+1):=by
 apply List.ext_getElem?;intro j;rw[List.getElem?_set,Gm]
 by_cases h:k=j
 ·subst h
  by_cases hk:k<n
  ·simp[yI,hk]
  ·simp[yI,hk]
 ·rw[if_neg h]
  by_cases hj:j<n
  ·have:(j<k+1)=(j<k):=by apply propext;omega
   simp[yI,hj,this]
  ·simp[yI,hj]
theorem qaV {n:Nat}{u:Nat->Int}{i:Nat}(h:i<n):(yI n u n).getD i 0=u i:=by unfold yI;simp[List.getD,h]
def yU (l:List Sg)(W:jy)(t:Nat):List Int:=yI l.length (fun i=>gJ l (aY W t) i) l.length
structure Wp (w:World) (ax base:Nat) (yJ:Option Addr) (yP:Nat) (l:List Sg) (W:jy) (k:Nat):Prop where
 ex:∃(A:Option Addr) (c:Nat) (sl:Nat->Option Addr×Nat),
  w.heap[ax]?=some (.cells #[.slice yJ l.length yP,.slice A k c,.int .i64 (W.stem.length:Int),.int .i64 0,.int .i64 0] 137 (0,0)) /\
  w.ownsRow base 35 1 (.slice A k c) k ((List.range k).map fun j => .slice (sl j).1 l.length (sl j).2) /\
  (∀g,(Value.slice A k c).ownBlock=some g->base<=g) /\
  ∀j,j<k->qY w (fun b=>base<=b/\some b≠(Value.slice A k c).ownBlock) (sl j).1 (sl j).2 (yU l W j)
theorem yF (l:List Sg)(W:jy)(t:Nat):(yU l W t).length=l.length:=Gm ..
theorem Wp.step {w w6:World}{ax base vb:Nat}{yJ:Option Addr}{yP:Nat}{l:List Sg}{W:jy}{k c c':Nat}{A A':Option Addr}{sl:Nat->Option Addr×Nat}{o:Obj}
  (h1:w.heap[ax]?=some (.cells #[.slice yJ l.length yP,.slice A k c,.int .i64 (W.stem.length:Int),.int .i64 0,.int .i64 0] 137 (0,0)))
  (h3:∀g,(Value.slice A k c).ownBlock=some g->base<=g) (h4:∀j,j<k->qY w (fun b=>base<=b/\some b≠(Value.slice A k c).ownBlock) (sl j).1 (sl j).2 (yU l W j))
  (hax:ax<base) (hvb:zO w vb (yU l W k)) (qfB:base<=vb/\(Value.slice A k c).ownBlock≠some vb) (hl:l.length<=1000000) (hbs:base<=w.heap.size)
  (g6:(w.alloc o).grownBy w6 (Value.slice A k c).ownBlock) (o6:w6.ownsRow base 35 1 (.slice A' (k+1) c') (k+1) (((List.range k).map fun j=>Value.slice (sl j).1 l.length (sl j).2) ++ [.slice (some ⟨vb,0,none⟩) l.length l.length]))
  (a6:(Value.slice A' (k+1) c').ownBlock=(Value.slice A k c).ownBlock\/(Value.slice A' (k+1) c').ownBlock=some (w.alloc o).heap.size) :
  Wp (w6.setCell ⟨ax,1,none⟩ (.slice A' (k+1) c')) ax base yJ yP l W (k+1)/\aH (fun b=>b=ax\/base<=b) w (w6.setCell ⟨ax,1,none⟩ (.slice A' (k+1) c')):=by
 have hcw:aH (fun b=>(Value.slice A k c).ownBlock=some b) w w6:=((aH.refl _ w).alloc o).grown g6 (fun g hg _=>hg);have hb6:w6.heap[ax]?=some (.cells #[.slice yJ l.length yP,.slice A k c,.int .i64 (W.stem.length:Int),.int .i64 0,.int .i64 0] 137 (0,0)):=hcw.box h1 (fun e=>by have:=h3 _ e;omega);have hset:aH (fun b=>b=ax) w6 (w6.setCell ⟨ax,1,none⟩ (.slice A' (k+1) c')):=(aH.refl _ _).set _ _ fun _=>rfl
 have hnew:∀g,(Value.slice A' (k+1) c').ownBlock=some g->base<=g:=fun g hg=>by
  rcases a6 with e|e <;> rw[e]at hg
  ·exact h3 g hg
  ·simp only[World.size_alloc,Option.some.injEq]at hg;omega
 have hkeep:∀b,b<w.heap.size->(Value.slice A k c).ownBlock≠some b->(Value.slice A' (k+1) c').ownBlock≠some b:=fun b hb hne e=>by
  rcases a6 with e'|e' <;> rw[e']at e
  ·exact hne e
  ·simp only[World.size_alloc,Option.some.injEq]at e;omega
 refine⟨⟨A',c',fun j=>if j=k then(some ⟨vb,0,none⟩,l.length)else sl j,?_,?_,hnew,fun j hj=>?_⟩,?_⟩
 ·rw[aB hb6];rfl
 ·have:((List.range (k+1)).map fun j=>Value.slice (if j=k then(some ⟨vb,0,none⟩,l.length)else sl j).1 l.length (if j=k then(some ⟨vb,0,none⟩,l.length)else sl j).2)=((List.range k).map fun j=>Value.slice (sl j).1 l.length (sl j).2) ++ [.slice (some ⟨vb,0,none⟩) l.length l.length]:=by
   rw[List.range_succ,List.map_append,List.map_cons,List.map_nil,if_pos rfl]
   congr 1
   apply List.map_congr_left;intro j hj;have:=List.mem_range.1 hj;rw[if_neg (by omega)]
  rw[this];exact kM o6 hset (fun g hg e=>by have:=hnew g hg;omega)
 ·have hkk:Keeps (fun b=>b≠ax/\(Value.slice A k c).ownBlock≠some b) w (w6.setCell ⟨ax,1,none⟩ (.slice A' (k+1) c')) :=
   ⟨Nat.le_trans hcw.size hset.size,fun b hb hl=>(hset.block b (Nat.lt_of_lt_of_le hl hcw.size) hb.1).trans (hcw.block b hl hb.2)⟩
  by_cases e:j=k
  ·subst e
   have h:=hvb.rd (by rw[yF];exact hl) (D:=fun b=>b=vb) rfl;rw[yF]at h;simp only[if_true];have hlt:=lt_of_block hvb;refine(h.keep ⟨hkk.size,fun b hb hl=>hkk.block b ⟨by omega,by rw[hb];exact qfB.2⟩ hl⟩).mono fun b hb _=>⟨by omega,?_⟩;rw[hb];exact fun e=>hkeep vb hlt qfB.2 e.symm
  ·simp only[e,if_false]
   have h:=h4 j (by omega);refine((h.mono (E:=fun b=>(base<=b/\some b≠(Value.slice A k c).ownBlock)/\b<w.heap.size) fun b hb hl=>⟨hb,hl⟩).keep ⟨hkk.size,fun b hb hl=>hkk.block b ⟨by omega,fun e=>hb.1.2 e.symm⟩ hl⟩).mono fun b hb _=>⟨hb.1.1,fun e=>hkeep b hb.2 (fun e=>hb.1.2 e.symm) e.symm⟩
 ·exact(hcw.mono fun b _ hb => .inr (h3 b hb)).trans (hset.mono fun b _ hb => .inl hb)
end Go.Proofs.YtdpbgcmfeajigaaGreatDoor
namespace Go.Proofs.YtdpbgcmfeajigaaGreatDoor
open Go.RowKit Go.Shelf
attribute [local go_sem] ak run_store_func Oper.semAt_some
theorem Qc (A:Option Addr)(n c:Nat)(s:Int)(w:World):(Instr.build 137 #[(0,.slice A n c),(2,.int .i64 s)]).run Tryz.prog w = .ok (.agg #[.slice A n c,.slice none 0 0,.int .i64 s,.int .i64 0,.int .i64 0]) w:=run_build w 137 _ _ (by kernel_rfl)
theorem qaS {w:World}{base n size g:Nat}{e:TypeId}{v:Value}{xs:List Value}(h:w.ownsRow base e size v n xs)(hg:v.ownBlock=some g):g<w.heap.size:=by
 rcases h.2 with⟨rfl,_⟩|⟨g',cap,cur,rfl,hb,h1,_⟩
 ·simp[Value.ownBlock]at hg
 ·simp[Value.ownBlock]at hg;subst hg;exact lt_of_block h1
theorem VD:(Tryz.prog.info? 35).map (fun i=>(i.zero,i.size,i.bytes))=some (some (.slice none 0 0),1,24):=by kernel_rfl
theorem P8 {D E F:Dom}(l:List Sg)(AS:Option Addr)(cS n:Nat)(f:Fm)(fb fo:Nat)(A:Option Addr)(c:Nat)(W:jy)(v:Value)(w:World)(hn:n=l.length)(hG:mG w E AS cS l)(hF:dR w D fb fo f A c)(hW:EY w F v W)(hk:GK w)
  (hf:eX W=true) (hsz:f.size<=100) (hvl:∀t,t<W.stem.length+W.loop.length->0<=aY W t/\aY W t<dh l) :
  Calls Tryz.prog 106 #[.slice AS n cS,.pointer (some ⟨fb,fo,none⟩),v] w fun e w'=>∃ax,e = .returned (.pointer (some ⟨ax,0,none⟩))/\jD w' aZ ax l W (W.stem.length+fB f*W.loop.length)/\Below w.heap.size w w':=by
 subst hn;obtain⟨As,cs,Al,cl,rfl,hs,hl⟩:=hW;have HG:=hid hG;have HF:=hid hF;have HS:=hid hs.old;have HL:=hid hl.old;have HK:=hid hk;have Xf:=hid hvl;have TV:=hid hf;have Bq:=hid (nO hf);have jE:=hid hsz;have hgl:=hG.len.1;have hsl:=hs.len.1;have hll:=hl.len.1
 have HLS:=hid (show l.length<=6 from by
  have h0:=hvl 0 (by have:=Bq.out;omega)
  exact(gU (mP h0.1 h0.2).1).2.1)
 have hbx:=Qc AS l.length cS;clear hG hF hs hl hk hf hsz hvl;obtain⟨S,hS⟩:∃S,W.stem.length=S:=⟨_,rfl⟩;obtain⟨L,hL⟩:∃L,W.loop.length=L:=⟨_,rfl⟩;have Ez:=hid hS;have TY:=hid hL;have w1:IntKind.i64.wrap ((S:Int)+(L:Int))=(S:Int)+(L:Int):=IntWalk.i64_in _ (by have:=Bq.out;omega);rw[hS,hL];clear hS hL
 go_enter Tryz.func106,Tryz.ntmps106
 go_upto_region 2 with(fail)
 refine aF fun U hU=>?_;have HB:=hid (show Below w.heap.size w U by rw[hU];go_grown);have HX:=hid (show U.heap[w.heap.size]?=some (.cells #[.slice As S cs,.slice Al L cl] 37 (0,0))by rw[hU,aQ _ _ _ (by simp)];exact at_new _ _ _ rfl);have OH:=hid (show U.heap[w.heap.size+1]?=some (.cells #[.slice AS l.length cS,.slice none 0 0,.int .i64 (S:Int),.int .i64 0,.int .i64 0] 137 (0,0))by rw[hU];exact at_new _ _ _ (by simp));have OI:=hid (show U.heap.size=w.heap.size+2 by rw[hU];simp);clear hU;have s0:=aj HX.out (i:=0) rfl;have s1:=aj HX.out (i:=1) rfl;have s2:=lt_of_block HX.out
 have Ir:=hid (Rt W ((S:Int)+(L:Int)) (.agg #[.slice As S cs,.slice Al L cl]) U (D:=aZ) ⟨As,cs,Al,cl,by rw[Ez.out,TY.out],HS.out.any HB.out,HL.out.any HB.out⟩ TV.out (by rw[Ez.out,TY.out];omega));rw[Ez.out,TY.out]at Ir;go_wp2_with (go_at_call 135;(with_reducible refine Ir.out.mono ?_);rintro e V ⟨Ap,cp,rfl,hp,hb⟩;have PO:=hid hp;have iG:=hid hb;clear hp hb)
 obtain⟨N,hN⟩:∃N,N=S+L:=⟨_,rfl⟩;have HN:=hid hN;have pY:=hid (show N<=100/\1<=L/\S<=60/\L<=40 by have:=Bq.out;rw[Ez.out,TY.out]at this;omega);obtain⟨base,hbase⟩:∃base,base=V.heap.size:=⟨_,rfl⟩;have LG:=hid hbase;have HVW:=hid (au HB.out iG.out);have bJ:=hid (show w.heap.size+2<=base by rw[hbase];have:=iG.out.size;have:=OI.out;omega);have HAX2:=hid ((iG.out.block _ (lt_of_block OH.out)).trans OH.out);have Iu:=hid ((iG.out.block _ (lt_of_block HX.out)).trans HX.out);rw[<-hN]at PO⊢
 have h0:Wp V (w.heap.size+1) base AS cS l W 0:=⟨none,0,fun _=>(none,0),by rw[Ez.out];exact HAX2.out,by simpa using World.ownsRow_nil V base 35 1,fun g hg=>by simp[Value.ownBlock]at hg,fun j hj=>absurd hj (Nat.not_lt_zero _)⟩;have H0:=hid h0;clear h0 hN hbase s0 s1 s2 hbx w1;obtain⟨i0,hti,hz0,hz1,hz2⟩:=info_parts VD;have HTI:=hid hti;have HZ0:=hid hz0;have HZ1:=hid hz1;have HZ2:=hid hz2;clear hti hz0 hz1 hz2;have hmk:=RJ l.length (by have:=HLS.out;omega)
 go_loopw [28] (fun r wr=>∃k:Nat,k<=N/\r = .int .i64 (k:Int)/\Wp wr (w.heap.size+1) base AS cS l W k/\aH (fun b=>b=w.heap.size+1\/base<=b) V wr) (fun r _=>N-(intOf r).toNat)
 case atStart=>exact⟨0,Nat.zero_le _,by go_num,H0.out,aH.refl _ _⟩
 case round =>
  obtain⟨wk,hwk⟩:∃wk,wk=wr:=⟨_,rfl⟩;subst hwk;obtain⟨k,hk,rfl,hax,hc⟩:=hrel;have HA:=hid hax;have HC:=hid hc;have HWR:=hid (show Below (w.heap.size+1) V wk from hc.below (fun b hb h=>by have:=bJ.out;omega) (by have:=bJ.out;have:=LG.out;omega));clear hax hc
  by_cases hlt:k<N
  ·have hii:(k:Int)<(N:Int):=by omega
   have hii':(k:Int)<(S:Int)+(L:Int):=by have:=HN.out;omega
   have hi0:(0:Int)<=(k:Int):=by omega
   have wk1:IntKind.i64.wrap ((k:Int)+1)=(k:Int)+1:=IntWalk.i64_in _ (by have:=pY.out;omega);have hll2:=mO W N;obtain⟨bp,op,x,rfl,_,hlp,HY,y0⟩:=(PO.out.keep (HC.out.keeps (fun b hb hg e=>by have:=OI.out;have:=LG.out;omega))).get (k:=k) (by rw[hll2];exact hlt);have HXL:=hid (show x=aY W k by rw[<-HY.out];exact Nv hlt);have HXB:=hid (Xf.out k (by rw[Ez.out,TY.out,<-HN.out];exact hlt));rw[<-HXL.out]at HXB;clear HY;go_upto_region 6 with(fail)
   refine aF fun W1 hW1=>?_;have HB1:=hid (show Below wk.heap.size wk W1 by rw[hW1];go_grown);obtain⟨vb,hvb⟩:∃vb,vb=wk.heap.size:=⟨_,rfl⟩;have HVB:=hid hvb;have HR1:=hid (show zO W1 vb (yI l.length (fun i=>gJ l x i) 0)by rw[hW1,Vq,hvb];unfold zO;rw[<-qdx];exact at_new _ _ _ rfl);rw[<-hvb];clear hW1 hvb y0 hlp;go_wp2_with fail
   go_loopw [37] (fun r w3=>∃i:Nat,i<=l.length/\r = .int .i64 (i:Int)/\zO w3 vb (yI l.length (fun i=>gJ l x i) i)/\Below wk.heap.size wk w3) (fun r _=>l.length-(intOf r).toNat)
   case atStart=>exact⟨0,Nat.zero_le _,rfl,HR1.out,HB1.out⟩
   case round =>
    obtain⟨i,hi,rfl,hr3,hb3⟩:=hrel;have HR3:=hid hr3;have HB3:=hid hb3;clear hr3 hb3
    by_cases hil:i<l.length
    ·have hii2:(i:Int)<(l.length:Int):=by omega
     have hi02:(0:Int)<=(i:Int):=by omega
     have HW3:=hid (show Below w.heap.size w _ from(HVW.out.trans (HWR.out.mono (Nat.le_succ _))).trans (HB3.out.mono (by have:=HC.out.size;have:=HVW.out.size;omega)));have aO:=hid (JH l AS l.length cS x i _ rfl (HG.out.any HW3.out) (HK.out.below HW3.out HK.out.pos) HXB.out.1 HXB.out.2 hil);go_wp2_with (go_at_call 102;(with_reducible refine aO.out.mono ?_);rintro e w4 ⟨rfl,hb4⟩;have HR4:=hid (HR3.out.below hb4);have HB4:=hid (au HB3.out hb4);have v1:=aA HR4.out (i:=i);have v2:=lt_of_block HR4.out;have v3:=aj HR4.out (i:=i) (u := .int .i64 ((yI l.length (fun i=>gJ l x i) i).getD i 0)) (by simp[List.getD,Gm,hil]);clear hb4)
     go_roundw
     case rel=>exact⟨i+1,by omega,by go_num,by rw[<-YL];exact HR4.out.set _,HB4.out.setCell (by rw[HVB.out];exact Nat.le_refl _) _⟩
     case measure=>simp[intOf];omega
    ·have hii2:¬(i:Int)<(l.length:Int):=by omega
     have hie:i=l.length:=by omega
     subst hie;have hrv:zO wr vb (yU l W k):=by unfold yU;rw[<-HXL.out];exact HR3.out
     have LC:=hid hrv;obtain⟨A2,c2,sl,k1,k2,a3,k4⟩:=HA.out.ex;have HOL:=hid (show(Value.slice A2 k c2).ownBlock≠some vb from fun e=>by have:=qaS k2 e;have:=HVB.out;omega);have a1:=(HB3.out.block _ (lt_of_block k1)).trans k1;have a2:=kM k2 (V:=fun _=>False) (aH.aS HB3.out) (fun _ _ h=>h);have a4:=fun j hj=>(k4 j hj).belowD HB3.out;clear k1 k2 k4;have HA1:=hid a1;have HA2:=hid a2;have oC:=hid a3;have HA4:=hid a4;have HVB2:=hid (show vb<wr.heap.size from lt_of_block hrv);have yZ:=hid (show V.heap.size<=wk.heap.size from HC.out.size);have y0:=aj a1 (i:=1) rfl;have y1:=aA a1 (i:=1);have y2:=lt_of_block a1;clear a1 a2 a3 a4 hrv hii2
     go_wp2_with (at_builtin;refine jv _ rfl (.tmp 52) (.tmp 54) 135 rfl base 35 i0 _ 1 24 Tryz.underlying135 HTI.out HZ0.out HZ1.out HZ2.out rfl (by omega) (.slice A2 k c2) k _ rfl (HA2.out.alloc _) _ (some ⟨wr.heap.size,0,none⟩) 1 1 _ rfl (Rd.cell1 (jO wr _ _ _ _ _ rfl rfl)) (by simp[Value.oneCell']) (by have:=pY.out;omega) (dI (by have:=pY.out;omega)) (by have:=LG.out;have:=yZ.out;have:=HB3.out.size;simp;omega) ?_;intro A' c' w6 hown6 X9 X3;have WU:=hid hown6;have HG6:=hid X9;have qbT:=hid X3;have Bl:=hid ((X9.block _ (by simp;omega) (fun e=>by have:=oC.out _ e.symm;have:=bJ.out;omega)).trans ((aQ wr _ _ y2).trans HA1.out));have z0:=aA Bl.out (i:=1);have z1:=lt_of_block Bl.out;have z2:=aj Bl.out (i:=1) rfl;clear hown6 X9 X3)
     go_roundw
     case rel =>
      have hst:=Wp.step (o := .cells #[.slice (some ⟨vb,0,none⟩) l.length l.length] 35) HA1.out oC.out HA4.out (by have:=bJ.out;omega) LC.out ⟨by have:=HVB.out;have:=LG.out;have:=yZ.out;omega,HOL.out⟩ (by have:=HLS.out;omega) (by have:=LG.out;have:=yZ.out;have:=HB3.out.size;omega) HG6.out WU.out qbT.out;exact⟨k+1,by have:=HN.out;omega,by go_num,hst.1,(HC.out.trans (aH.aS HB3.out)).trans hst.2⟩
     case measure=>have:=HN.out;simp[intOf];omega
  ·have hii:¬(k:Int)<(S:Int)+(L:Int):=by have:=HN.out;omega
   have hkn:k=N:=by omega
   subst hkn;obtain⟨A2,c2,sl,k1,k2,k3,k4⟩:=HA.out.ex;rw[Ez.out]at k1;have K1:=hid k1;have K2:=hid k2;have K3:=hid k3;have K4:=hid k4;have yZ:=hid (show V.heap.size<=wk.heap.size from HC.out.size);have HWW:=hid (show Below w.heap.size w wk from HVW.out.trans (HWR.out.mono (Nat.le_succ _)));have WO:=hid (HC.out.box Iu.out (fun h=>by have:=bJ.out;omega));obtain⟨z,hz⟩:∃z,fB f=z:=⟨_,rfl⟩;have HZ:=hid (show z<=100 by rw[<-hz];exact Nat.le_trans (ND f) jE.out)
   have Zv:Hid (∀W':World,Below wk.heap.size wk W'->Calls Tryz.prog 136 #[.pointer (some ⟨fb,fo,none⟩)] W' fun e w2=>e = .returned (.int .i64 (z:Int))/\Below wk.heap.size wk w2):=hid fun W' hb=>by
    rw[<-hz];exact(Q7 f (by have:=jE.out;omega) _ fb fo A c W' (HF.out.old.keep (Keeps.of_below (HWW.out.trans (hb.mono HWW.out.size)) fun _ h=>h))).mono fun e w2 h2=>⟨h2.1,au hb h2.2⟩
   have hzl:z*L<=4000:=Nat.le_trans (Nat.mul_le_mul HZ.out (show L<=40 from pY.out.2.2.2)) (by omega);obtain⟨zl,qaE⟩:∃zl,z*L=zl:=⟨_,rfl⟩;have e1:(z:Int)*(L:Int)=(zl:Int):=by rw[<-qaE];rfl
   have HZZ:=hid (show zl=fB f*L by rw[<-qaE,hz]);rw[qaE]at hzl;have w2:IntKind.i64.wrap (zl:Int)=(zl:Int):=IntWalk.i64_in _ (by omega);have w3:IntKind.i64.wrap ((S:Int)+(zl:Int))=(S:Int)+(zl:Int):=IntWalk.i64_in _ (by have:=pY.out;omega);have w4:IntKind.i64.wrap ((S:Int)+(zl:Int)+(L:Int))=(S:Int)+(zl:Int)+(L:Int):=IntWalk.i64_in _ (by have:=pY.out;omega)
   have aI:Hid (∀W':World,Below wk.heap.size wk W'->W'.cell? ⟨w.heap.size+1,2,none⟩=some (.int .i64 (S:Int))/\W'.cell? ⟨w.heap.size,1,none⟩=some (.slice Al L cl)):=hid fun W' hb =>
    ⟨aj ((hb.block _ (lt_of_block K1.out)).trans K1.out) (i:=2) rfl,aj ((hb.block _ (lt_of_block WO.out)).trans WO.out) (i:=1) rfl⟩
   have HI1:=hid (show Below wk.heap.size wk wk.drew from(Below.refl _ _).drew);have HI2:=hid (show∀i,Below wk.heap.size wk (wk.drewN i)from fun i=>(aV.n wk i).below _);obtain⟨s0,s1⟩:=aI.out wk (Below.refl _ _);have s2:=lt_of_block WO.out;have s3:=lt_of_block K1.out;clear k1 k2 k3 k4 hz qaE;go_upto_region 13 with(fail)
   go_region_held3 (fun W':World=>W'.cell? ⟨w.heap.size+1,2,none⟩=some (.int .i64 (S:Int))/\W'.cell? ⟨w.heap.size,1,none⟩=some (.slice Al L cl))
    (first|exact aI.out _ hI|exact⟨aj (aB HB1.out _) (i:=2) rfl,(World.cell?_of_block (at_set (show w.heap.size≠w.heap.size+1 by omega))).trans (aI.out _ hI).2⟩|(go_keep;done))
    ((go_at_call 136;(with_reducible refine(Zv.out _ (by first|exact HI1.out|exact HI2.out _)).mono ?_);rintro e V1 ⟨rfl,hI⟩;have HB1:=hid ((hI.block _ (lt_of_block K1.out)).trans K1.out);have v1:=aA HB1.out (i:=3);have v2:=lt_of_block HB1.out;have v3:=aj HB1.out (i:=3) rfl))
   have HIV:=hid hI;obtain⟨V2,hV2⟩:∃V2,V2=V1.setCell ⟨w.heap.size+1,3,none⟩ (.int .i64 ((S:Int)+(zl:Int))):=⟨_,rfl⟩;rw[<-hV2];have B2:=hid (show V2.heap[w.heap.size+1]?=some (.cells #[.slice AS l.length cS,.slice A2 k c2,.int .i64 (S:Int),.int .i64 ((S:Int)+(zl:Int)),.int .i64 0] 137 (0,0))by rw[hV2,aB HB1.out];rfl);have B3:=hid (show V2.heap[w.heap.size]?=some (.cells #[.slice As S cs,.slice Al L cl] 37 (0,0))by rw[hV2,at_set (show w.heap.size≠w.heap.size+1 by omega)];exact(HIV.out.block _ (lt_of_block WO.out)).trans WO.out);have C2:=hid (show aH (fun b=>b=w.heap.size+1) wk V2 by rw[hV2];exact(aH.aS HIV.out).set _ _ fun _=>rfl);clear hV2 hI v1 v2 v3 s0 s1 s2 s3;have s0:=aj B2.out (i:=3) rfl
   have s1:=aj B3.out (i:=1) rfl;have s2:=lt_of_block B2.out;have s3:=lt_of_block B3.out;have s4:=aA B2.out (i:=4);have s5:=aj B2.out (i:=4) rfl;go_upto_region 14 with(fail)
   go_region_held3 (fun W':World=>W'.cell? ⟨w.heap.size+1,3,none⟩=some (.int .i64 ((S:Int)+(zl:Int)))/\W'.cell? ⟨w.heap.size,1,none⟩=some (.slice Al L cl))
    (first|exact⟨s0,s1⟩|exact⟨aj (aB B2.out _) (i:=3) rfl,(World.cell?_of_block (at_set (show w.heap.size≠w.heap.size+1 by omega))).trans s1⟩|(go_keep;done))
    (fail)
   obtain⟨V3,hV3⟩:∃V3,V3=(V2.setCell ⟨w.heap.size+1,4,none⟩ (.int .i64 ((S:Int)+(zl:Int)+(L:Int)))).drew:=⟨_,rfl⟩;rw[<-hV3]
   have B4:=hid (show V3.heap[w.heap.size+1]?=some (.cells #[.slice AS l.length cS,.slice A2 k c2,.int .i64 (S:Int),.int .i64 ((S:Int)+(zl:Int)),.int .i64 ((S:Int)+(zl:Int)+(L:Int))] 137 (0,0))by
    rw[hV3];show(V2.setCell ⟨w.heap.size+1,4,none⟩ (.int .i64 ((S:Int)+(zl:Int)+(L:Int)))).heap[w.heap.size+1]?=_
    rw[aB B2.out];rfl)
   have C3:=hid (show aH (fun b=>b=w.heap.size+1) wk V3 by rw[hV3];exact(C2.out.set _ _ fun _=>rfl).drew);clear hV3 s0 s1 s2 s3 s4 s5;go_wp2_with fail
   go_ret
   have hbf:Below w.heap.size w V3:=HWW.out.trans (C3.out.below (fun x hx=>by omega) HWW.out.size);have hva:((List.range k).map (yU l W)).length=k:=by simp
   have hvi:∀t,t<k->((List.range k).map (yU l W)).getD t []=yU l W t:=fun t ht=>by simp[List.getD,ht]
   have hNL:k=S+L:=HN.out;have hq:=pY.out;refine⟨w.heap.size+1,rfl,⟨trivial,by rw[TY.out];omega,by rw[TY.out,<-HZZ.out];omega,by rw[Ez.out];omega,AS,cS,A2,c2,(List.range k).map (yU l W),?_,HG.out.any hbf,?_,by rw[hva,Ez.out,TY.out];exact hNL,fun t ht=>?_⟩,hbf⟩
   ·unfold Px
    rw[B4.out,hva,Ez.out,TY.out,<-HZZ.out];rfl
   ·refine⟨(List.range k).map fun j => .slice (sl j).1 l.length (sl j).2,?_,fun i hi=>?_⟩
    ·have h:=Rd.own (kM K2.out C3.out (fun g hg e=>by have:=K3.out g hg;have:=bJ.out;omega)) (D:=aZ) (by omega) (fun _ _=>trivial)
     rw[hva];exact h
    ·rw[hva]at hi
     refine⟨(sl i).1,(sl i).2,?_,?_⟩
     ·rw[hvi i hi,yF];simp[hi]
     ·rw[hvi i hi]
      exact((K4.out i hi).keep (C3.out.keeps fun b hb hd e=>by have:=bJ.out;omega)).mono fun _ _ _=>trivial
   ·rw[Ez.out,TY.out,<-hNL]at ht
    rw[hvi t ht];exact⟨yF ..,fun i hi=>qaV hi⟩
end Go.Proofs.YtdpbgcmfeajigaaGreatDoor
namespace Go.Proofs.YtdpbgcmfeajigaaGreatDoor
open Go.RowKit Go.Shelf
attribute [local go_sem] ak run_store_func Oper.semAt_some
theorem IG {l:List Int}{m:Int}(h:dW l m=true){i:Nat}(hi:i<l.length):0<=l.getD i 0/\l.getD i 0<m:=by
 unfold dW at h;have:=List.all_eq_true.1 h (l.getD i 0) (by simp[List.getD,hi]);unfold qo at this;simpa using this
theorem Lr {m:Int}{W:jy}(h:jC m W=true)(t:Nat):0<=aY W t/\aY W t<m:=by
 unfold jC at h;rw[Bool.and_eq_true,Bool.and_eq_true]at h;have hf:=nO h.1.1;unfold aY
 split
 ·rename_i ht
  exact IG h.1.2 ht
 ·exact IG h.2 (Nat.mod_lt _ (by omega))
theorem VE {D E F:Dom}(l:List Sg)(AS:Option Addr)(cS n:Nat)(f:Fm)(fb fo:Nat)(A:Option Addr)(c:Nat)(W:jy)(v:Value)(w:World)(hn:n=l.length)(hG:mG w E AS cS l)(hF:dR w D fb fo f A c)(hW:EY w F v W)(hg:GF w)(hk:GK w)
  (hf:sO l f) (hl:bG f=true) (hv:dL l=true) (hsz:f.size<=100) (hwd:jC (dh l) W=true) :
  Calls Tryz.prog 67 #[.slice AS n cS,.pointer (some ⟨fb,fo,none⟩),v] w fun e w'=>∃ax A2 c2,e = .returned (.tuple #[.pointer (some ⟨ax,0,none⟩),.slice A2 (W.stem.length+fB f*W.loop.length+W.loop.length) c2,.bool true]) /\
   jD w' aZ ax l W (W.stem.length+fB f*W.loop.length)/\RdB w' aZ A2 c2 (qR (W.stem.length+fB f*W.loop.length) W.loop.length (pJ l W) f)/\(qR (W.stem.length+fB f*W.loop.length) W.loop.length (pJ l W) f).length=W.stem.length+fB f*W.loop.length+W.loop.length/\Below w.heap.size w w':=by
 subst hn;obtain⟨As,cs,Al,cl,rfl,hs,hll⟩:=hW;have HG:=hid hG;have HF:=hid hF;have HS:=hid hs.old;have HL:=hid hll.old;have wo:=hid hg;have HK:=hid hk;have Lu:=hid hf;have sH:=hid hl;have HV:=hid hv;have jE:=hid hsz;have HWD:=hid hwd;have hgl:=hG.len.1;clear hG hF hs hll hg hk hf hl hv hsz hwd;have ny:=hid (show∀W',Below w.heap.size w W'->EY W' aZ (.agg #[.slice As W.stem.length cs,.slice Al W.loop.length cl]) W from fun W' hb=>⟨As,cs,Al,cl,rfl,HS.out.any hb,HL.out.any hb⟩);obtain⟨lz,hlz⟩:∃lz,dh l=lz:=⟨_,rfl⟩;have HLZ:=hid hlz;clear hlz
 go_enter Tryz.func67,Tryz.ntmps67
 go_upto_region 1 with(fail)
 refine aF fun U hU=>?_;have HB:=hid (show Below w.heap.size w U by rw[hU];go_grown);have HX:=hid (show U.heap[w.heap.size]?=some (.cells #[.slice As W.stem.length cs,.slice Al W.loop.length cl] 37 (0,0))by rw[hU];exact at_new _ _ _ rfl);clear hU
 have JU:Hid (∀W':World,Below U.heap.size U W'->Calls Tryz.prog 105 #[.slice AS l.length cS,.pointer (some ⟨fb,fo,none⟩)] W' fun e w2=>e = .returned (.bool true)/\Below U.heap.size U w2):=hid fun W' hb =>
  have hbw:=au HB.out hb
  (Hr l AS cS l.length f fb fo A c W' rfl (HG.out.any hbw) (HF.out.old.keep (Keeps.of_below hbw fun _ h=>h)) Lu.out sH.out HV.out (wo.out.below hbw wo.out.pos) (HK.out.below hbw HK.out.pos)).mono fun e w2 h2=>⟨h2.1,au hb h2.2⟩
 have HC2:Hid (∀W':World,Below U.heap.size U W'->Calls Tryz.prog 101 #[.slice AS l.length cS] W' fun e w2=>e = .returned (.int .i64 lz)/\Below U.heap.size U w2):=hid fun W' hb =>
  have hbw:=au HB.out hb
  (Jh lz HLZ.out rfl (HG.out.any hbw) (HK.out.below hbw HK.out.pos)).mono fun e w2 h2=>⟨h2.1,au hb h2.2⟩
 have Eu:Hid (∀W':World,Below U.heap.size U W'->Calls Tryz.prog 40 #[.int .i64 lz,.agg #[.slice As W.stem.length cs,.slice Al W.loop.length cl]] W' fun e w2=>e = .returned (.bool true)/\Below U.heap.size U w2):=hid fun W' hb=>by
  have hbw:=au HB.out hb;have h:=G6 lz W _ W' (ny.out _ hbw);rw[<-HLZ.out,HWD.out]at h;rw[<-HLZ.out];exact h.mono fun e w2 h2=>⟨h2.1,au hb h2.2⟩
 have aI:Hid (∀W':World,Below U.heap.size U W'->W'.cell? ⟨w.heap.size,0,none⟩=some (.slice As W.stem.length cs)/\W'.cell? ⟨w.heap.size,1,none⟩=some (.slice Al W.loop.length cl)):=hid fun W' hb =>
  ⟨aj ((hb.block _ (lt_of_block HX.out)).trans HX.out) (i:=0) rfl,aj ((hb.block _ (lt_of_block HX.out)).trans HX.out) (i:=1) rfl⟩
 have HI1:=hid (show Below U.heap.size U U.drew from(Below.refl _ _).drew);have HI2:=hid (show∀i,Below U.heap.size U (U.drewN i)from fun i=>(aV.n U i).below _);obtain⟨s0,s1⟩:=aI.out U (Below.refl _ _)
 go_region_held3 (fun W':World=>W'.cell? ⟨w.heap.size,0,none⟩=some (.slice As W.stem.length cs)/\W'.cell? ⟨w.heap.size,1,none⟩=some (.slice Al W.loop.length cl))
  (first|(with_reducible exact aI.out _ hI)|(go_keep;done))
  ((first
   | (go_at_call 105;(with_reducible refine(JU.out _ (by first|exact hI|exact HI1.out|exact HI2.out _)).mono ?_);rintro e V1 ⟨rfl,hI⟩)
   | (go_at_call 101;(with_reducible refine(HC2.out _ (by first|exact hI|exact HI1.out|exact HI2.out _)).mono ?_);rintro e V2 ⟨rfl,hI⟩)
   | (go_at_call 40;(with_reducible refine(Eu.out _ (by first|exact hI|exact HI1.out|exact HI2.out _)).mono ?_);rintro e V3 ⟨rfl,hI⟩)))
 have HB1:=hid hI;clear hI s0 s1 HI1 HI2 JU HC2 Eu;obtain⟨s0,s1⟩:=aI.out V3 HB1.out;have s2:w.heap.size<V3.heap.size:=World.block_lt_of_cell? _ _ s0;have aT:=hid (au HB.out HB1.out);have HAO:=hid (P8 l AS cS l.length f fb fo A c W _ V3 rfl (HG.out.any aT.out) (HF.out.old.keep (Keeps.of_below aT.out fun _ h=>h)) (ny.out _ aT.out) (HK.out.below aT.out HK.out.pos) (by have h:=HWD.out;unfold jC at h;rw[Bool.and_eq_true,Bool.and_eq_true]at h;exact h.1.1) jE.out (fun t _=>Lr HWD.out t));go_upto_region 4 with(go_at_call 106;(with_reducible refine HAO.out.mono ?_);rintro e V4 ⟨ax,rfl,ha,hb4⟩;have HA4:=hid ha;have HB4:=hid (au aT.out hb4);clear ha hb4)
 have ZQ:=hid (qa3 ax _ fb fo l W f A c V4 HA4.out (HF.out.old.keep (Keeps.of_below HB4.out fun _ h=>h)) Lu.out);go_wp2_with (go_at_call 107;(with_reducible refine ZQ.out.mono ?_);rintro e V5 ⟨A2,c2,rfl,h1,h2,h3⟩;have H1:=hid h1;have H2:=hid h2;have H3:=hid h3;clear h1 h2 h3)
 refine bodyPost_ret (v := .tuple #[.pointer (some ⟨ax,0,none⟩),.slice A2 (W.stem.length+fB f*W.loop.length+W.loop.length) c2,.bool true]) (by simp[results,Tryz.results67,go_sem]) rfl ⟨ax,A2,c2,rfl,?_,H1.out.mono fun _ _ _=>trivial,H2.out,au HB4.out H3.out⟩;exact(HA4.out.below H3.out).mono fun _ _ _=>trivial
end Go.Proofs.YtdpbgcmfeajigaaGreatDoor
namespace Go.Proofs.YtdpbgcmfeajigaaGreatDoor
open Go.RowKit Go.Shelf
attribute [local go_sem] ak run_store_func Oper.semAt_some
def qK (l:List Sg)(f:Fm)(W:jy)(t:Nat):Bool :=
 dN (qR (W.stem.length+fB f*W.loop.length) W.loop.length (pJ l W) f) (fO (W.stem.length+fB f*W.loop.length) W.loop.length t)
theorem Cc {D E F:Dom}(l:List Sg)(AS:Option Addr)(cS n:Nat)(f:Fm)(W:jy)(fv v:Value)(t:Nat)(w:World)(hn:n=l.length)(hG:mG w E AS cS l)(hF:bI w D fv f)(hW:EY w F v W)(hg:GF w)(hk:GK w)
  (hf:sO l f) (hl:bG f=true) (hv:dL l=true) (hsz:f.size<=100) (hwd:jC (dh l) W=true) (ht:t<=10000) :
  Calls Tryz.prog 21 #[.slice AS n cS,fv,v,.int .i64 (t:Int)] w fun e w'=>e = .returned (.bool (qK l f W t))/\Below w.heap.size w w':=by
 subst hn;obtain⟨A,c,rfl,hA⟩:=hF;obtain⟨As,cs,Al,cl,rfl,hs,hll⟩:=hW;have HG:=hid hG;have HA:=hid hA.old;have HS:=hid hs.old;have HL:=hid hll.old;have wo:=hid hg;have HK:=hid hk;have Lu:=hid hf;have sH:=hid hl;have HV:=hid hv;have jE:=hid hsz;have HWD:=hid hwd;have hgl:=hG.len.1;have d1:¬(t:Int)<0:=by omega
 have d2:decide ((t:Int)<0)=false:=decide_eq_false d1;have HHZ:=hid (show qK l f W t=dN (qR (W.stem.length+fB f*W.loop.length) W.loop.length (pJ l W) f) (fO (W.stem.length+fB f*W.loop.length) W.loop.length t)from rfl);obtain⟨b,hb⟩:∃b,W.stem.length+fB f*W.loop.length=b:=⟨_,rfl⟩;have HB0:=hid hb;rw[hb]at HHZ;clear hG hA hs hll hg hk hf hl hv hsz hwd hb
 go_enter Tryz.func21,Tryz.ntmps21
 go_upto_region 3 with(fail)
 refine aF fun U hU=>?_;have HB:=hid (show Below w.heap.size w U by rw[hU];go_grown);have vG:=hid (show U.heap[w.heap.size]?=some (.cells #[.int .i64 f.op,.string f.name,.int .i64 f.val,.int .i64 f.bound,.slice A f.args.length c] 24 (0,0))by rw[hU,aQ _ _ _ (by simp)];exact at_new _ _ _ rfl);have Iu:=hid (show U.heap[w.heap.size+1]?=some (.cells #[.slice As W.stem.length cs,.slice Al W.loop.length cl] 37 (0,0))by rw[hU];exact at_new _ _ _ (by simp));clear hU;have s0:=aj Iu.out (i:=0) rfl;have s1:=aj Iu.out (i:=1) rfl;have s2:=lt_of_block Iu.out
 have HHF:=hid (show dR U aZ w.heap.size 0 f A c from⟨trivial,lt_of_block vG.out,aj vG.out (i:=0) rfl,aj vG.out (i:=1) rfl,aj vG.out (i:=2) rfl,aj vG.out (i:=3) rfl,aj vG.out (i:=4) rfl,(HA.out.keep (Keeps.of_below HB.out fun _ h=>h)).mono fun _ _ _=>trivial⟩);have ZQ:=hid (VE l AS cS l.length f w.heap.size 0 A c W (.agg #[.slice As W.stem.length cs,.slice Al W.loop.length cl]) U (F:=aZ) rfl (HG.out.any HB.out) HHF.out ⟨As,cs,Al,cl,rfl,HS.out.any HB.out,HL.out.any HB.out⟩ (wo.out.below HB.out wo.out.pos) (HK.out.below HB.out HK.out.pos) Lu.out sH.out HV.out jE.out HWD.out);obtain⟨N,hN⟩:∃N,b+W.loop.length=N:=⟨_,rfl⟩;have HN:=hid hN;rw[HB0.out,hN]at ZQ;clear hN
 go_upto_region 4 with(go_at_call 67;(with_reducible refine ZQ.out.mono ?_);rintro e V ⟨ax,A2,c2,rfl,ha,hr,hrl,hbv⟩;have OH:=hid ha;have HR:=hid hr;have ny:=hid hrl;have iG:=hid (au HB.out hbv);clear ha hr hrl hbv)
 have qfb:=OH.out.hn;have hLp:=OH.out.hL;have hpl:=kW (b:=b) (t:=t) hLp;rw[HN.out]at hpl qfb;obtain⟨q,hq⟩:∃q,fO b W.loop.length t=q:=⟨_,rfl⟩;have HPL:=hid (yx ax b W.loop.length N t V HN.out.symm hLp (by omega) (by omega) OH.out.cells.1 (by have h:=OH.out.cells.2;rw[HN.out]at h;exact h));rw[hq]at hpl HPL HHZ;obtain⟨pb,po,y,rfl,_,hlb,HY,y0⟩:=HR.out.get (k:=q) (by rw[ny.out];exact hpl);have q1:(q:Int)<(N:Int):=by omega
 have q0:(0:Int)<=(q:Int):=by omega
 have HHR:=hid (show qK l f W t=y by rw[HHZ.out];exact HY.out);clear HY hq hpl qfb hLp;go_wp2_with (go_at_call 68;(with_reducible refine HPL.out.mono ?_);rintro e V2 ⟨rfl,hb2⟩;have k0:=(hb2.cell (p:=⟨pb,po+q,none⟩) hlb).trans y0;have k1:pb<V2.heap.size:=Nat.lt_of_lt_of_le hlb hb2.size;have HB2:=hid (au iG.out hb2);clear hb2)
 go_ret
 exact⟨aC HHR.out.symm,HB2.out⟩
end Go.Proofs.YtdpbgcmfeajigaaGreatDoor
namespace Go.Proofs.YtdpbgcmfeajigaaGreatDoor
theorem qa5 (l:List Sg)(W:jy)(hL:0<W.loop.length)(n:ByteArray)(v:Int):Per (fun t=>pJ l W t n v) W.stem.length W.loop.length:=by
 intro t ht;show pJ l W (t+W.loop.length) n v=pJ l W t n v;unfold pJ;rw[DK W hL t ht]
theorem UR (l:List Sg)(f:Fm)(W:jy)(t:Nat)(hL:0<W.loop.length)(hb:Bare f):qK l f W t=iF (pJ l W) f t:=by
 obtain⟨h1,h2⟩:=qa4 (b:=W.stem.length+fB f*W.loop.length) (s:=W.stem.length) hL (qa5 l W hL) f hb (Nat.le_refl _);unfold qK dN;rw[h1.2 _ (kW hL),h2.place hL]
def Xh (l:List Sg)(f:Fm):Prop:=f.op=3->fQ l f.name<l.length/\f.val<(l.getD (fQ l f.name) default).size
inductive nC (l:List Sg):Fm->Prop
 | mk {f:Fm} (h:Xh l f) (ha:∀g,g∈f.args->nC l g):nC l f
theorem row_of {l:List Sg}(f:Fm)(hb:Bare f)(hs:f.size<=1000000)(hk:nC l f):sO l f:=by
 refine Fm.tV (P:=fun f=>Bare f->f.size<=1000000->nC l f->sO l f) ?_ f hb hs hk;clear hb hs hk f;intro f ih hb hs hk;obtain⟨h,ha⟩:Xh l f/\∀g,g∈f.args->nC l g:=by cases hk;exact⟨by assumption,by assumption⟩
 have har:=nJ hb;have hsz:=Fm.size_eq f;refine .mk ⟨?_,?_,fun e=>(h e).1,fun e=>(h e).2,fun e=>?_,fun e=>?_⟩ fun g hg=>ih g hg (hb.arg hg) (by have:=gB hg;omega) (ha g hg)
 ·unfold YU
  rcases mQ hb.node.1 with h|h|h
  ·unfold yB at h;omega
  ·omega
  ·omega
 ·have:=jg f.args
  omega
 ·rw[har.1 e];exact Nat.le_refl _
 ·rw[har.2 e];exact Nat.le_refl _
end Go.Proofs.YtdpbgcmfeajigaaGreatDoor
namespace Go.Proofs.YtdpbgcmfeajigaaGreatDoor
open Go.RowKit Go.Shelf
attribute [local go_sem] ak run_store_func Oper.semAt_some
theorem rX {f:Fm}(h:iI f=true):bG f=true:=by
 obtain⟨h1,h2,h3⟩:=QV h;exact Yz (by omega) (by omega) h3
theorem zy {D:Dom}(f:Fm)(fb fo:Nat)(A:Option Addr)(c:Nat)(w:World)(hF:dR w D fb fo f A c)(hg:GF w)(hk:GK w) :
  Calls Tryz.prog 42 #[.pointer (some ⟨fb,fo,none⟩)] w fun e w'=>e = .returned (.bool (bG f))/\Below w.heap.size w w':=by
 have HF:=hid hF;have wo:=hid hg;have LJ:=hid hk;obtain⟨_,q1,p0,p1,p2,p3,p4,_⟩:=hF
 have HV:=hid (show∀W',Below w.heap.size w W'->bI W' (· < w.heap.size) (.agg #[.int .i64 f.op,.string f.name,.int .i64 f.val,.int .i64 f.bound,.slice A f.args.length c]) f from fun W' hb =>
  ⟨A,c,rfl,HF.out.old.args.keep (Keeps.of_below hb fun _ h=>h)⟩)
 have HIK:=hid (Ky f _ w (HV.out w (Below.refl _ _)) hg hk);clear hg hk;cases hkn:iI f
 ·rw[hkn]at HIK
  obtain⟨g,hgz⟩:∃g,iC f=g:=⟨_,rfl⟩
  have HR:=hid (show(g.op != 0)=bG f by
   rw[<-hgz];cases hl:bG f
   ·unfold iC;rw[hl];rfl
   ·rw[bne,bW (zX hl)];rfl)
  have hfo:=BN
  have aI:Hid (∀W':World,Below w.heap.size w W'->W'.cell? ⟨fb,fo,none⟩=some (.int .i64 f.op)/\W'.cell? ⟨fb,fo+1,none⟩=some (.string f.name)/\W'.cell? ⟨fb,fo+2,none⟩=some (.int .i64 f.val)/\W'.cell? ⟨fb,fo+3,none⟩=some (.int .i64 f.bound)/\W'.cell? ⟨fb,fo+4,none⟩=some (.slice A f.args.length c)/\fb<W'.heap.size):=hid fun W' hb =>
   ⟨(hb.cell (p:=⟨fb,fo,none⟩) q1).trans p0,(hb.cell (p:=⟨fb,fo+1,none⟩) q1).trans p1,(hb.cell (p:=⟨fb,fo+2,none⟩) q1).trans p2,(hb.cell (p:=⟨fb,fo+3,none⟩) q1).trans p3,(hb.cell (p:=⟨fb,fo+4,none⟩) q1).trans p4,Nat.lt_of_lt_of_le q1 hb.size⟩
  have HGZ:=hid hgz;clear hkn hgz
  go_enter Tryz.func42,Tryz.ntmps42
  go_wp2_with (first
   | (go_at_call 29;(with_reducible refine HIK.out.mono ?_);rintro e W1 ⟨rfl,hb1⟩;have HB1:=hid hb1;obtain⟨s0,s1,s2,s3,s4,s5⟩:=aI.out W1 hb1;clear hb1)
   | (go_at_call 88;(refine(yO f _ _ (HV.out _ HB1.out) (wo.out.below HB1.out wo.out.pos) (LJ.out.below HB1.out LJ.out.pos)).mono ?_);rintro e W3 ⟨kv,rfl,hb3,A3,c3,rfl,vW⟩;have HB3:=hid (au HB1.out hb3);clear hb3 vW))
  go_ret
  exact⟨aC (by rw[<-HR.out,<-HGZ.out]),HB3.out⟩
 ·rw[hkn]at HIK
  have HR:=hid (rX hkn);clear hkn
  go_enter Tryz.func42,Tryz.ntmps42
  go_wp2_with (go_at_call 29;(with_reducible refine HIK.out.mono ?_);rintro e W1 ⟨rfl,hb1⟩;have HB1:=hid hb1;clear hb1)
  go_ret
  exact⟨aC (by rw[HR.out]),HB1.out⟩
end Go.Proofs.YtdpbgcmfeajigaaGreatDoor
namespace Go.Proofs.YtdpbgcmfeajigaaGreatDoor
open Go.RowKit Go.Shelf
attribute [local go_sem] ak run_store_func Oper.semAt_some
theorem oJ (o:Int)(w:World):Calls Tryz.prog 91 #[.int .i64 o] w fun e w'=>e = .returned (.bool (kX o))/\w'=w:=by
 by_cases h1:o=15
 ·subst h1
  go_enter Tryz.func91,Tryz.ntmps91
  go_wp2_with fail
  go_ret
  exact⟨rfl,rfl⟩
 ·by_cases h2:o=16
  ·subst h2
   go_enter Tryz.func91,Tryz.ntmps91
   go_wp2_with fail
   go_ret
   exact⟨rfl,rfl⟩
  ·by_cases h3:o=17
   ·subst h3
    go_enter Tryz.func91,Tryz.ntmps91
    go_wp2_with fail
    go_ret
    exact⟨rfl,rfl⟩
   ·have d1:(o==15)=false:=bW h1
    have d2:(o==16)=false:=bW h2;have d3:(o==17)=false:=bW h3
    have HR:=hid (show kX o=false by
     cases h:kX o
     ·rfl
     ·rcases qQ.1 h with h|h|h <;> contradiction)
    clear h1 h2 h3
    go_enter Tryz.func91,Tryz.ntmps91
    go_wp2_with fail
    go_ret
    exact⟨by rw[HR.out];rfl,rfl⟩
def findF (gs:List Fm)(g:Fm):Int:=if g∈gs then(jQ g gs:Int)else -1
theorem IX {gs:List Fm}{g:Fm}{k:Nat}(hk:k<gs.length)(h:gs.getD k default=g)(hm:∀j,j<k->gs.getD j default≠g):findF gs g=(k:Int):=by
 have hg:g∈gs:=by rw[<-h];exact cO hk
 unfold findF;rw[if_pos hg,TB hk h hm]
theorem FD {gs:List Fm}{g:Fm}(h:∀j,j<gs.length->gs.getD j default≠g):findF gs g = -1:=by
 unfold findF;rw[if_neg];intro hg;have h1:=qm.2 hg;exact h _ h1 (oI h1)
theorem tH {D E:Dom}(gs:List Fm)(A:Option Addr)(c n:Nat)(g:Fm)(b o:Nat)(A2:Option Addr)(c2:Nat)(w:World)(hn:n=gs.length)(h:bV w D gs A c)(h2:dR w E b o g A2 c2)(hs:∀f,f∈gs->f.size<=1000000)(hcl:(∀b,D b->Cl w b)\/(∀b,E b->Cl w b)) :
  Calls Tryz.prog 44 #[.slice A n c,.pointer (some ⟨b,o,none⟩)] w fun e w'=>e = .returned (.int .i64 (findF gs g))/\gZ w w':=by
 subst hn;have HR:=hid (h.mono (E:=fun k=>D k/\k<w.heap.size) fun k hk hl=>⟨hk,hl⟩);have HG:=hid (h2.mono (E:=fun k=>E k/\k<w.heap.size) fun k hk hl=>⟨hk,hl⟩);have HS:=hid hs;have VU:=hid hcl;have hgl:=h.len.1;clear h h2 hs hcl
 go_enter Tryz.func44,Tryz.ntmps44
 go_wp2_with fail
 go_loopw [8] (fun r wr=>∃k:Nat,k<=gs.length/\r = .int .i64 (k:Int)/\gZ w wr/\(∀j,j<k->gs.getD j default≠g)) (fun r _=>gs.length-(intOf r).toNat)
 case atStart=>exact⟨0,Nat.zero_le _,rfl,by first|exact gZ.refl _|exact gZ.mV ⟨1,rfl⟩,fun j h=>absurd h (Nat.not_lt_zero _)⟩
 case round =>
  obtain⟨i,hi,rfl,hb,hm⟩:=hrel;have dG:=hid hb;have HM:=hid hm;have WZ:=hid (HR.out.keep (Keeps.of_below hb.below fun _ h=>h.2));have HGr:=hid (HG.out.keep (Keeps.of_below hb.below fun _ h=>h.2));clear hb hm
  by_cases hlt:i<gs.length
  ·have hii:(i:Int)<(gs.length:Int):=by omega
   obtain⟨b1,o1,A',c',f,rfl,HX,hf⟩:=WZ.out.get hlt
   have hfm:f∈gs:=by
    have:=HX.out;rw[<-this];exact gu hlt
   have aI:Hid (∀W':World,gZ wr W'->W'.cell? ⟨b1,o1+i*5,none⟩=some (.int .i64 f.op)/\W'.cell? ⟨b1,o1+i*5+1,none⟩=some (.string f.name)/\W'.cell? ⟨b1,o1+i*5+2,none⟩=some (.int .i64 f.val)/\W'.cell? ⟨b1,o1+i*5+3,none⟩=some (.int .i64 f.bound)/\W'.cell? ⟨b1,o1+i*5+4,none⟩=some (.slice A' f.args.length c')/\W'.cell? ⟨b,o,none⟩=some (.int .i64 g.op)/\W'.cell? ⟨b,o+1,none⟩=some (.string g.name)/\W'.cell? ⟨b,o+2,none⟩=some (.int .i64 g.val)/\W'.cell? ⟨b,o+3,none⟩=some (.int .i64 g.bound)/\W'.cell? ⟨b,o+4,none⟩=some (.slice A2 g.args.length c2)):=hid fun W' hb =>
    have hq:=hf.keep (Keeps.of_below hb.below fun k (hk:D k/\k<w.heap.size)=>Nat.lt_of_lt_of_le hk.2 dG.out.below.size);have he:=HGr.out.keep (Keeps.of_below hb.below fun k (hk:E k/\k<w.heap.size)=>Nat.lt_of_lt_of_le hk.2 dG.out.below.size)
    ⟨hq.c0,hq.c1,hq.c2,hq.c3,hq.c4,he.c0,he.c1,he.c2,he.c3,he.c4⟩
   have aO:Hid (∀W':World,gZ wr W'->Calls Tryz.prog 16 #[.agg #[.int .i64 f.op,.string f.name,.int .i64 f.val,.int .i64 f.bound,.slice A' f.args.length c'],.agg #[.int .i64 g.op,.string g.name,.int .i64 g.val,.int .i64 g.bound,.slice A2 g.args.length c2]] W' fun e w'=>e = .returned (.int .i64 (f.cmp g))/\gZ wr w'):=hid fun W' hb=>by
    refine(oP f g _ _ W' (bI.cells5 (hf.keep (Keeps.of_below hb.below fun k (hk:D k/\k<w.heap.size)=>Nat.lt_of_lt_of_le hk.2 dG.out.below.size)).args) (bI.cells5 (HGr.out.keep (Keeps.of_below hb.below fun k (hk:E k/\k<w.heap.size)=>Nat.lt_of_lt_of_le hk.2 dG.out.below.size)).args) (HS.out f hfm) ?_).mono ?_
    ·rcases VU.out with h|h
     ·exact .inl fun k hk=>(h k hk.1).of_eq ((dG.out.trans hb).below.block k hk.2)
     ·exact .inr fun k hk=>(h k hk.1).of_eq ((dG.out.trans hb).below.block k hk.2)
    ·rintro e w' ⟨rfl,hb'⟩
     exact⟨rfl,hb.trans hb'⟩
   have HI0:=hid (gZ.refl wr);have HI1:=hid (show gZ wr wr.drew from(gZ.refl wr).drewN 1);have HI2:=hid (show∀i,gZ wr (wr.drewN i)from fun i=>(gZ.refl wr).drewN i);obtain⟨p0,p1,p2,p3,p4,r0,r1,r2,r3,r4⟩:=aI.out wr (gZ.refl wr);have hbl:=Nat.lt_of_lt_of_le hf.dom.2 dG.out.below.size;have hwl:=Nat.lt_of_lt_of_le HGr.out.dom.2 dG.out.below.size;have hi0:(0:Int)<=(i:Int):=by omega
   clear hf;go_upto_region 4 with(fail)
   go_region_held3 (fun W':World=>W'.cell? ⟨b1,o1+i*5,none⟩=some (.int .i64 f.op)/\W'.cell? ⟨b1,o1+i*5+1,none⟩=some (.string f.name)/\W'.cell? ⟨b1,o1+i*5+2,none⟩=some (.int .i64 f.val)/\W'.cell? ⟨b1,o1+i*5+3,none⟩=some (.int .i64 f.bound)/\W'.cell? ⟨b1,o1+i*5+4,none⟩=some (.slice A' f.args.length c')/\W'.cell? ⟨b,o,none⟩=some (.int .i64 g.op)/\W'.cell? ⟨b,o+1,none⟩=some (.string g.name)/\W'.cell? ⟨b,o+2,none⟩=some (.int .i64 g.val)/\W'.cell? ⟨b,o+3,none⟩=some (.int .i64 g.bound)/\W'.cell? ⟨b,o+4,none⟩=some (.slice A2 g.args.length c2))
    (first|(with_reducible exact aI.out _ hI)|(go_keep;done))
    ((go_at_call 16;(with_reducible refine(aO.out _ (by first|exact HI0.out|exact HI1.out|exact HI2.out _)).mono ?_);rintro e W9 ⟨rfl,hI⟩))
   all_goals
    have aT:=hid (dG.out.trans hI);have kQ:=hid HX.out;have dY:=hid hlt;clear p0 p1 p2 p3 p4 r0 r1 r2 r3 r4 HX hI hlt hfm
    by_cases hc:f=g
    ·have hz:f.cmp g=0:=mJ.2 hc
     have hz2:(f.cmp g==0)=true:=beq_iff_eq.2 hz;have HF:=hid (IX dY.out (kQ.out.trans hc) HM.out);clear hz hc;go_wp2_with fail
     go_ret
     exact⟨by rw[HF.out];rfl,aT.out⟩
    ·have hz2:(f.cmp g==0)=false:=bW fun h=>hc (mJ.1 h)
     have HC:=hid hc;clear hc;go_wp2_with fail
     go_roundw
     case rel =>
      refine⟨i+1,by have:=dY.out;omega,by go_num,aT.out,fun j hj=>?_⟩
      by_cases hji:j<i
      ·exact HM.out j hji
      ·obtain rfl:j=i:=by omega
       rw[kQ.out];exact HC.out
     case measure=>have:=dY.out;simp[intOf];omega
  ·have hii:¬(i:Int)<(gs.length:Int):=by omega
   have HF:=hid (FD (gs:=gs) (g:=g) fun j hj=>HM.out j (by omega));clear hlt;go_wp2_with fail
   go_ret
   exact⟨by rw[HF.out];rfl,dG.out⟩
end Go.Proofs.YtdpbgcmfeajigaaGreatDoor
namespace Go.Proofs.YtdpbgcmfeajigaaGreatDoor
open Go.RowKit Go.Shelf
attribute [local go_sem] ak run_store_func
structure SK (l:Nat) (L:List Fm) (F:Fm) (fb fo:Nat) (Z:Dom) (B0 B1:Nat) (J:Nat->World->Prop):Prop where
 z:∀b,Z b->B0<=b/\(b<B1\/B1+2<=b)
 keep:∀k W W',J k W->aH (fun b=>B1<=b/\b<B1+2) W W'->J k W'
 step:∀k W b o A c,B1+2<=W.heap.size->J k W->k<L.length->dR W (· < B0) b o (L.getD k default) A c->((L.getD k default).size=F.size->b=fb/\o=fo) ->
  YieldAt Fence.wide 0 Tryz.prog l #[.pointer (some ⟨b,o,none⟩)] W fun e W'=>aH Z W W'/\e = .returned (.bool true)/\J (k+1) W'
structure Ug (w:World) (l yb vb:Nat):Prop where
 y:w.heap[yb]?=some (.cells #[.func (.yield l) #[] #[]] 66 (0,0))
 v:w.heap[vb]?=some (.cells #[.func (.func 90) #[] #[.pointer (some ⟨vb,0,none⟩),.pointer (some ⟨yb,0,none⟩)]] 66 (0,0))
theorem Ug.dX {w w':World}{l yb vb:Nat}{V:Dom}(h:Ug w l yb vb)(hc:aH V w w')(hy:¬V yb)(hv:¬V vb):Ug w' l yb vb:=⟨hc.box h.y hy,hc.box h.v hv⟩
theorem wX {l:List Fm}{i:Nat}(h:i<l.length):dK (l.take (i+1))=dK (l.take i)++aX (l.getD i default):=by
 rw[aU l default h,DW]
def vT (L:List Fm)(k:Nat)(M:List Fm):Prop:=(L.drop k).take M.length=M
theorem vT.left {L:List Fm}{k:Nat}{M N:List Fm}(h:vT L k (M++N)):vT L k M:=by
 unfold vT at h⊢;have h1:=congrArg (List.take M.length) h;rw[List.take_take,List.length_append,Nat.min_eq_left (Nat.le_add_right _ _),List.take_left]at h1;exact h1
theorem vT.right {L:List Fm}{k:Nat}{M N:List Fm}(h:vT L k (M++N)):vT L (k+M.length) N:=by
 unfold vT at h⊢;have h1:=congrArg (List.drop M.length) h;rw[List.drop_take,List.length_append,List.drop_drop,Nat.add_sub_cancel_left,List.drop_left]at h1;exact h1
theorem vT.one {L:List Fm}{k:Nat}{f:Fm}(h:vT L k [f]):k<L.length/\L.getD k default=f:=by
 unfold vT at h;have h1:=congrArg List.length h;rw[List.length_take,List.length_drop]at h1;have hk:k<L.length:=by simp at h1;omega
 refine⟨hk,?_⟩
 have h2:((L.drop k).take 1)[0]?=some f:=by
  have:=h;simp only[List.length_cons,List.length_nil]at this;rw[this];rfl
 rw[List.getElem?_take_of_lt (by omega),List.getElem?_drop]at h2;simp at h2;simp[List.getD,h2]
theorem YX {L:List Fm}{k i:Nat}{f:Fm}(h:vT L k (dK f.args))(hi:i<f.args.length):vT L (k+(dK (f.args.take i)).length) (aX (f.args.getD i default)):=by
 have e:f.args=f.args.take (i+1)++f.args.drop (i+1):=(List.take_append_drop _ _).symm
 have e2:dK f.args=(dK (f.args.take i)++aX (f.args.getD i default))++dK (f.args.drop (i+1)):=by
  conv=>lhs;rw[e]
  have:∀l m:List Fm,dK (l++m)=dK l++dK m:=by
   intro l m
   induction l with
   | nil=>rfl
   | cons x l ih=>simp only[List.cons_append,dK,ih,List.append_assoc]
  rw[this,wX hi]
 rw[e2]at h;exact h.left.right
theorem Va {l:Nat}{L:List Fm}{F:Fm}{fb fo:Nat}{Z:Dom}{B0 B1:Nat}{J:Nat->World->Prop}(hR:SK l L F fb fo Z B0 B1 J)(yb vb:Nat)(hy:B1<=yb/\yb<B1+2)(hv:B1<=vb/\vb<B1+2)(f:Fm):∀(b o:Nat) (A:Option Addr) (c:Nat) (k:Nat) (w:World) (hf:dR w (· < B0) b o f A c) (hvb:Ug w l yb vb) (hs:B1+2<=w.heap.size) (hj:J k w) (hl:vT L k (aX f)) (hq:f.size<=F.size) (hq2:f.size=F.size->b=fb/\o=fo),
  Calls Tryz.prog 90 #[.pointer (some ⟨b,o,none⟩),.pointer (some ⟨vb,0,none⟩),.pointer (some ⟨yb,0,none⟩)] w fun e w'=>aH Z w w'/\e = .returned (.bool true)/\J (k+(aX f).length) w':=by
 refine Fm.tV (P:=fun f=>∀(b o:Nat) (A:Option Addr) (c:Nat) (k:Nat) (w:World) (hf:dR w (· < B0) b o f A c) (hvb:Ug w l yb vb) (hs:B1+2<=w.heap.size) (hj:J k w) (hl:vT L k (aX f)) (hq:f.size<=F.size) (hq2:f.size=F.size->b=fb/\o=fo),
  Calls Tryz.prog 90 #[.pointer (some ⟨b,o,none⟩),.pointer (some ⟨vb,0,none⟩),.pointer (some ⟨yb,0,none⟩)] w fun e w'=>aH Z w w'/\e = .returned (.bool true)/\J (k+(aX f).length) w') ?_ f
 intro f ih b o A c k w hf hvb hs hj hl hq hq2;have HR:=hid hR;have HIH:=hid ih;have HH:=hid hf;have HV:=hid hvb;have HJ:=hid hj;have HL:=hid hl;have HQ:=hid hq;have HQ2:=hid hq2;have ZM:=hid (wW f);have Zl:=hid (show¬Z yb from fun h=>by have:=hR.z _ h;omega);have G8:=hid (show¬Z vb from fun h=>by have:=hR.z _ h;omega);have Iq:Hid (∀b,b<w.heap.size->b<B0->¬Z b):=hid fun b _ h hz=>by have:=hR.z _ hz;omega
 have hal:=hf.args.len.1;have BF:=hid hs;obtain⟨N,hN⟩:∃N,N=f.args.length:=⟨_,rfl⟩;have HN:=hid hN;obtain⟨_,hlw,_,_,_,_,p4,_⟩:=hf;rw[<-hN]at p4 hal;clear hR ih hvb hj hl hq hq2 hN hs
 go_enter Tryz.func90,Tryz.ntmps90
 go_wp2_with fail
 go_loopw [11] (fun q wr=>∃i:Nat,i<=N/\q = .int .i64 (i:Int)/\aH Z w wr/\J (k+(dK (f.args.take i)).length) wr) (fun q _=>N-(intOf q).toNat)
 case atStart=>exact⟨0,Nat.zero_le _,rfl,aH.refl _ _,by simpa[dK]using HJ.out⟩
 case round =>
  obtain⟨i,hi,rfl,hc,hj⟩:=hrel;have EL:=hid hc;have WL:=hid hj;obtain⟨_,hlr,c0,_,_,_,VY,ha'⟩:=HH.out.keep (hc.keeps Iq.out);have Bj:=hid ha';have zM:=hid (HV.out.dX hc Zl.out G8.out);have LX:=hid (Nat.le_trans BF.out hc.size);rw[<-HN.out]at VY;clear hc hj ha' p4
  by_cases tN:i<N
  ·have hii:(i:Int)<(N:Int):=by omega
   have hi0:(0:Int)<=(i:Int):=by omega
   have hlf:i<f.args.length:=by rw[<-HN.out];exact tN
   obtain⟨b1,o1,A1,c1,g,rfl,HX,hg⟩:=Bj.out.get hlf;have wC:=hid (show(dK (f.args.take (i+1))).length=(dK (f.args.take i)).length+(aX g).length by rw[wX hlf,HX.out,List.length_append])
   have WM:=hid (show vT L (k+(dK (f.args.take i)).length) (aX g)by
    have h1:=HL.out;rw[ZM.out]at h1;have h2:=YX h1.left hlf;rw[HX.out]at h2
    exact h2)
   have hgm:g∈f.args:=by rw[<-HX.out];exact cO hlf
   have hgs:g.size<F.size:=by have h1:=gB hgm;have h2:=HQ.out;rw[Fm.size_eq]at h2;omega
   have f0:=aj zM.out.v (i:=0) rfl;have hvl:=lt_of_block zM.out.v
   have aO:Hid (∀W',aV wr W'->Calls Tryz.prog 90 #[.pointer (some ⟨b1,o1+i*5,none⟩),.pointer (some ⟨vb,0,none⟩),.pointer (some ⟨yb,0,none⟩)] W' fun e W9=>aH Z wr W9/\e = .returned (.bool true)/\J (k+(dK (f.args.take (i+1))).length) W9):=hid fun W' hdw=>by
    have hbw:=hdw.below wr.heap.size;have hcd:aH (fun b=>B1<=b/\b<B1+2) wr W':=aH.aS hbw;refine(HIH.out g hgm b1 (o1+i*5) A1 c1 (k+(dK (f.args.take i)).length) W' (hg.keep hdw.keeps) ⟨(hbw.block _ (lt_of_block zM.out.y)).trans zM.out.y,(hbw.block _ (lt_of_block zM.out.v)).trans zM.out.v⟩ (Nat.le_trans LX.out hbw.size) (HR.out.keep _ _ _ WL.out hcd) WM.out (by omega) (fun h=>by omega)).mono ?_;rintro e w' ⟨hc,hx,hj⟩;rw[wC.out,<-Nat.add_assoc];exact⟨(aH.aS (V:=Z) hbw).trans hc,hx,hj⟩
   have aI:Hid (∀W':World,aH Z wr W'->W'.cell? ⟨vb,0,none⟩=some (.func (.func 90) #[] #[.pointer (some ⟨vb,0,none⟩),.pointer (some ⟨yb,0,none⟩)])/\W'.cell? ⟨b,o+4,none⟩=some (.slice (some ⟨b1,o1,none⟩) N c)):=hid fun W' hc =>
    ⟨aj (zM.out.dX hc Zl.out G8.out).v (i:=0) rfl,by have:=(HH.out.keep ((EL.out.trans hc).keeps Iq.out)).c4;rw[<-HN.out]at this;exact this⟩
   have G7:=hid tN;clear hg hgm hgs HX c0 tN hlf;have HI0:=hid (aV.refl wr);have HI1:=hid (show aV wr wr.drew from(aV.refl wr).drew);have HI2:=hid (fun i=>aV.n wr i);go_upto_region 4 with(fail)
   go_region_held3 (fun W':World=>W'.cell? ⟨vb,0,none⟩=some (.func (.func 90) #[] #[.pointer (some ⟨vb,0,none⟩),.pointer (some ⟨yb,0,none⟩)])/\W'.cell? ⟨b,o+4,none⟩=some (.slice (some ⟨b1,o1,none⟩) N c))
    (first|(with_reducible exact aI.out _ hI)|(go_keep;done))
    ((go_at_call 90;with_reducible refine(aO.out _ (by first|exact HI0.out|exact HI1.out|exact HI2.out _)).mono ?_;rintro e W9 ⟨hI,rfl,hJ⟩))
   all_goals
    have Py:=hid hI;have VT:=hid hJ;clear hI hJ f0 VY;go_wp2_with fail
    go_roundw
    case rel=>exact⟨i+1,by have:=G7.out;omega,by go_num,EL.out.trans Py.out,VT.out⟩
    case measure=>have:=G7.out;simp[intOf];omega
  ·have hie:f.args.take i=f.args:=List.take_of_length_le (by have:=HN.out;omega)
   have hnl:¬(i:Int)<(N:Int):=by omega
   have VW:=hid (show J (k+(dK f.args).length) wr by have:=WL.out;rw[hie]at this;exact this);clear hie tN;cases hrm:kX f.op
   ·have LK:=hid (show(aX f).length=(dK f.args).length by rw[ZM.out,hrm];simp)
    have HRM:=hid hrm;clear hrm;go_upto_region 7 with(fail)
    have LV:=hid (oJ f.op wr);rw[HRM.out]at LV;go_wp2_with (go_at_call 91;with_reducible refine LV.out.mono ?_;rintro e W9 ⟨rfl,rfl⟩)
    go_ret
    exact⟨EL.out,rfl,by rw[LK.out];exact VW.out⟩
   ·have LK:=hid (show(aX f).length=(dK f.args).length+1 by rw[ZM.out,hrm];simp)
    have HONE:=hid (show vT L (k+(dK f.args).length) [f]by have h1:=HL.out;rw[ZM.out,hrm]at h1;exact h1.right);obtain⟨hk1,hk2⟩:=HONE.out.one;obtain⟨yf,yt,ya,yb',QE,Tq⟩:=HR.out.step (k+(dK f.args).length) wr b o A c LX.out VW.out hk1 (by rw[hk2];exact HH.out.keep (EL.out.keeps Iq.out)) (by rw[hk2];exact HQ2.out);have y0:=aj zM.out.y (i:=0) rfl;have HRM:=hid hrm;have HR4:=hid Tq;have LV:=hid (oJ f.op wr);rw[HRM.out]at LV;clear hrm hk1 hk2 Tq;go_upto_region 7 with(fail)
    refine(wpIn_wide (n:=1)).1 ?_;have hfd:Fence.wide.depth=none:=rfl;have Nj:Fence.wide.fn 91:=trivial
    gi_wp2_with (first|(gi_at_call 91;refine(callsIn_wide.2 LV.out).mono ?_;rintro e W9 ⟨rfl,rfl⟩))
    refine HR4.out.mono ?_;rintro e w4 ⟨hc4,rfl,Tn⟩;have Bo:=hid hc4;have HJ4:=hid Tn;clear hc4 Tn y0 QE
    gi_wp2
    go_wp2_with fail
    go_ret
    exact⟨EL.out.trans Bo.out,rfl,by rw[LK.out,<-Nat.add_assoc];exact HJ4.out⟩
end Go.Proofs.YtdpbgcmfeajigaaGreatDoor
namespace Go.Proofs.YtdpbgcmfeajigaaGreatDoor
open Go.RowKit Go.Shelf
attribute [local go_sem] ak run_store_func
theorem qaU {l:Nat}{Z:Dom}{B0 B1:Nat}{J:Nat->World->Prop}(f:Fm)(b o:Nat)(hR:SK l (aX f) f b o Z B0 B1 J)(pb:Nat)(A:Option Addr)(c:Nat)(w:World)
  (hw:w.heap.size=B1) (hBB:B0<=B1) (hf:dR w (· < B0) b o f A c) (hp:w.cell? ⟨pb,0,none⟩=some (.pointer (some ⟨b,o,none⟩))) (hj:J 0 w) :
  Calls Tryz.prog 89 #[.func (.yield l) #[] #[],.pointer (some ⟨pb,0,none⟩)] w fun e w'=>(∃v,e = .returned v)/\aH Z w w'/\J (aX f).length w':=by
 subst hw;have HR:=hid hR;have HH:=hid hf;have HJ:=hid hj;have hpl:=World.block_lt_of_cell? w _ hp;clear hR hf hj
 go_enter Tryz.func89,Tryz.ntmps89
 go_upto_region 2 with(fail)
 refine aF fun W hW=>?_;have hbw:Below w.heap.size w W:=by rw[hW];go_grown
 have e0:W.heap[w.heap.size]?=some (.cells #[.func (.yield l) #[] #[]] 66 (0,0)):=by
  rw[hW,aQ _ _ _ (by simp only[World.size_alloc];omega)];exact at_new _ _ _ rfl
 have e3:W.heap[w.heap.size+1]?=some (.cells #[.nilFunc] 66 (0,0)):=by
  rw[hW,at_new _ _ _ (by simp only[World.size_alloc])]
 have hws:W.heap.size=w.heap.size+2:=by rw[hW];simp only[World.size_alloc]
 have hp1:=(hbw.cell (p:=⟨pb,0,none⟩) hpl).trans hp;clear hW hp;have z0:=aj e3 (i:=0) rfl;have z1:=aA e3 (i:=0);have z2:=lt_of_block e3;have oL:=hid e0;have Ip:=hid e3;have aT:=hid hbw;have yZ:=hid hws;have HPL:=hid hpl;have Uc:=hid hp1;clear e0 e3 hbw hws hp1 hpl;go_upto_region 3 with(fail)
 refine aF fun W3 hW=>?_
 have hv3:Ug W3 l w.heap.size (w.heap.size+1):=by
  refine⟨?_,?_⟩
  ·rw[hW,Below.heap_setCell _ _ _ _ (by simp only[];omega)];exact oL.out
  ·rw[hW,aB Ip.out];rfl
 have hb3:Below w.heap.size w W3:=by
  rw[hW];exact aT.out.trans ((aH.set (V:=fun k=>k=w.heap.size+1) (aH.refl _ W) _ _ fun _=>rfl).below (fun b hb=>by omega) aT.out.size)
 have hs3:W3.heap.size=w.heap.size+2:=by rw[hW];simpa using yZ.out
 have f0:=aj hv3.v (i:=0) rfl
 have p0:W3.cell? ⟨pb,0,none⟩=some (.pointer (some ⟨b,o,none⟩)):=by
  rw[hW];exact(World.cell?_of_block (a:=⟨pb,0,none⟩) (Below.heap_setCell _ _ _ _ (by have h:pb<w.heap.size:=HPL.out;show pb≠w.heap.size+1;omega))).trans Uc.out
 have aO:=hid (Va HR.out w.heap.size (w.heap.size+1) (by omega) (by omega) f b o A c 0 W3 (HH.out.keep (Keeps.of_below hb3 fun k (h:k<B0)=>by omega)) hv3 (by omega) (HR.out.keep _ _ _ HJ.out (aH.aS hb3)) (by unfold vT;rw[List.drop_zero,List.take_length]) (Nat.le_refl _) (fun _=>⟨rfl,rfl⟩));have HB3:=hid hb3;clear hW hv3 hb3 hs3 z0 z1 z2;go_wp2_with (first|(go_at_call 90;with_reducible refine aO.out.mono ?_;rintro e W9 ⟨hI,rfl,hJ⟩;have HI:=hid hI;have HJ9:=hid hJ;clear hI hJ))
 go_end0
 exact⟨⟨_,rfl⟩,(aH.aS HB3.out).trans HI.out,by have:=HJ9.out;rwa [Nat.zero_add]at this⟩
theorem zF {g:Operand}{ps:Array Tmp}{assign body:Code}{Q:Exit->Act->World->Prop}{a:Act}{w:World}(f:Fm)(b o pb B0:Nat)(A:Option Addr)(c:Nat)(Z:Dom)(I:Nat->World->Prop)
  (hg:a.eval g = .func (.func 89) #[] #[.pointer (some ⟨pb,0,none⟩)]) (hps:ps.size=1)
  (hf:dR w (· < B0) b o f A c) (hBw:B0<=w.heap.size) (hp:w.cell? ⟨pb,0,none⟩=some (.pointer (some ⟨b,o,none⟩)))
  (hZ:∀b,Z b->B0<=b/\(b<w.heap.size\/w.heap.size+4<=b))
  (hI:∀k W W',I k W->aH (fun b=>w.heap.size<=b/\b<w.heap.size+4) W W'->I k W')
  (h0:I 0 w)
  (a₁ : Value->Act)
  (hassign:∀(l:Nat) (p:Value) (W:World) (K:Act->World->Prop),K (a₁ p) W ->
   assign.wpIn (Fence.wide.inRound l) 0 Tryz.prog (Exit.then K (fun _ _ _=>False)) { tmps:=(ps.zip #[p]).foldl (fun t (p,v)=>t.setIfInBounds p v) a.tmps,defers := [] } W)
  (eu:∀(l k:Nat) (W:World) (b' o':Nat) (A:Option Addr) (c:Nat),w.heap.size+4<=W.heap.size->aH Z w W->I k W->k<(aX f).length->dR W (· < B0) b' o' ((aX f).getD k default) A c->(((aX f).getD k default).size=f.size->b'=b/\o'=o) ->
   body.wpIn (Fence.wide.inRound l) 0 Tryz.prog (xG Z I (fun _ _=>False) k W) (a₁ (.pointer (some ⟨b',o',none⟩))) W)
  (hdone:∀W,aH Z w W->I (aX f).length W->W.heap[w.heap.size]?=some (.deferred (some []))->Q .normal { a with defers := { target := .collected w.heap.size,args := #[] } :: a.defers } W) :
  (Code.rangeFunc g ps assign body).wp Tryz.prog Q a w:=by
 refine(wpIn_wide (n:=3)).1 (wpIn_rangeFunc fun fn _=>?_);obtain⟨rec,hrec⟩:∃rec:LoopState->Option Code->Loop,rec=fun st pe => { state:=st,pending:=pe,fn,tmps:=a.tmps,params:=ps,assign,body,defers:=w.heap.size }:=⟨_,rfl⟩;obtain⟨W1,hW1⟩:∃W1,(w.alloc (.deferred (some []))).alloc (.loop (rec .ready none))=W1:=⟨_,rfl⟩;have hL1:W1.heap[w.heap.size+1]?=some (.loop (rec .ready none)):=by rw[<-hW1];exact at_new _ _ _ (by simp)
 have hK1:W1.heap[w.heap.size]?=some (.deferred (some [])):=by rw[<-hW1,aQ _ _ _ (by simp)];exact at_new _ _ _ rfl
 have hs1:W1.heap.size=w.heap.size+2:=by rw[<-hW1];simp
 have hb1:Below w.heap.size w W1:=by rw[<-hW1];exact((Below.refl _ w).alloc (Nat.le_refl _) _).alloc (by simp) _
 refine⟨w.heap.size+1,[{ target := .collected w.heap.size,args := #[] }],W1,{ target := .fn (.func 89) #[.pointer (some ⟨pb,0,none⟩)],args := #[.func (.yield (w.heap.size+1)) #[] #[]] },W1,89,
  #[.func (.yield (w.heap.size+1)) #[] #[]] ++ #[.pointer (some ⟨pb,0,none⟩)],W1,?_,?_,?_,?_,?_,?_⟩
 ·rw[<-hW1,hrec];exact run_enterLoop_outer _ _ _ _ _
 ·simp only[resolve,hg]
  simp[go_sem]
 ·exact fun f' _=>trivial
 ·simp[invoke,go_sem,enters_of Tryz.func89 (by kernel_rfl) rfl]
 ·intro hd;simp[Fence.wide]at hd
 ·have own:∀W W':World,aH (fun b=>w.heap.size+2<=b/\b<w.heap.size+4) W W'->aH (fun b=>w.heap.size<=b/\b<w.heap.size+4) W W':=fun W W' h=>h.mono fun b _ hb=>⟨by omega,hb.2⟩
  have nZ:∀W W':World,aH (fun b=>b=w.heap.size+1) W W'->aH (fun b=>w.heap.size<=b/\b<w.heap.size+4) W W':=fun W W' h=>h.mono fun b _ hb=>by omega
  refine callsIn_wide.2 ((qaU (l:=w.heap.size+1) (Z:=fun b=>Z b\/b=w.heap.size+1) (B0:=B0) (B1:=w.heap.size+2)
   (J:=fun k W=>I k W/\aH Z w W/\W.heap[w.heap.size+1]?=some (.loop (rec .ready none))/\W.heap[w.heap.size]?=some (.deferred (some [])))
   f b o ⟨?_,?_,?_⟩ pb A c W1 hs1 (by omega) (hf.keep (Keeps.of_below hb1 fun k (hk:k<B0)=>by omega)) ?_ ⟨hI 0 w W1 h0 (aH.aS hb1),aH.aS hb1,hL1,hK1⟩).mono ?_)
  ·rintro b (hb|hb)
   ·have:=hZ b hb;exact⟨this.1,by omega⟩
   ·omega
  ·rintro k W W' ⟨hi,hc,hl,hk⟩ hw
   exact⟨hI k W W' hi (own _ _ hw),hc.trans' hw fun b _ hb=>by omega,hw.box hl (by omega),hw.box hk (by omega)⟩
  ·rintro k W b' o' A c hsz ⟨hi,hc,hl,hk⟩ hlen hfw hrt
   have hlt:w.heap.size+1<W.heap.size:=lt_of_block hl;have hy:=run_yield (P:=Tryz.prog) (args := #[.pointer (some ⟨b',o',none⟩)]) hl (by rw[hrec];exact hps.symm);rw[hrec]at hy;refine⟨fn,_,assign,body,hy,roundIn_of_wpIn trivial (hassign _ _ W _ ⟨_,run_beginRound hl (by rw[hrec]),?_⟩)⟩;obtain⟨Wb,QA⟩:∃Wb,Wb=W.putObj (w.heap.size+1) (.loop { rec .ready none with state := .busy }):=⟨_,rfl⟩;rw[<-QA];have hcb:aH (fun b=>b=w.heap.size+1) W Wb:=by rw[QA];exact aH.putObj _ _ _
   have hl2:Wb.heap[w.heap.size+1]?=some (.loop { rec .ready none with state := .busy }):=by rw[QA];exact World.putObj_heap_same hlt
   have hk2:Wb.heap[w.heap.size]?=some (.deferred (some [])):=hcb.box hk (by omega);have hsb:W.heap.size<=Wb.heap.size:=hcb.size;refine wpIn_mono (eu _ k Wb b' o' A c (by omega) (hc.trans' hcb fun b _ hb=>by omega) (hI _ _ _ hi (nZ _ _ hcb)) hlen (hfw.keep (hcb.keeps fun k _ (hk:k<B0)=>by omega)) hrt) ?_
   have fin:∀(jump:Option Code) (W3:World),aH Z Wb W3 ->
     (Instr.endRound (w.heap.size+1) jump).run Tryz.prog W3 = .ok (.bool jump.isNone) (W3.putObj (w.heap.size+1) (.loop (rec (if jump.isNone then .ready else .done) jump))) /\
     aH (fun b=>b=w.heap.size+1) W3 (W3.putObj (w.heap.size+1) (.loop (rec (if jump.isNone then .ready else .done) jump))) /\
     aH (fun b=>Z b\/b=w.heap.size+1) W (W3.putObj (w.heap.size+1) (.loop (rec (if jump.isNone then .ready else .done) jump))) /\
     aH Z w (W3.putObj (w.heap.size+1) (.loop (rec (if jump.isNone then .ready else .done) jump))) /\
     (W3.putObj (w.heap.size+1) (.loop (rec (if jump.isNone then .ready else .done) jump))).heap[w.heap.size+1]?=some (.loop (rec (if jump.isNone then .ready else .done) jump)) /\
     (W3.putObj (w.heap.size+1) (.loop (rec (if jump.isNone then .ready else .done) jump))).heap[w.heap.size]?=some (.deferred (some [])):=fun jump W3 hc3=>by
    have hl3:=hc3.box hl2 (fun h=>by have:=hZ _ h;omega);have hk3:=hc3.box hk2 (fun h=>by have:=hZ _ h;omega);have hcp:=aH.putObj W3 (w.heap.size+1) (.loop (rec (if jump.isNone then .ready else .done) jump));have hr:=run_endRound (P:=Tryz.prog) jump hl3;rw[hrec]at hr hcp⊢;refine⟨hr,hcp,?_,?_,World.putObj_heap_same (lt_of_block hl3),hcp.box hk3 (by omega)⟩
    ·exact((hcb.mono fun b _ hb => .inr hb).trans (hc3.mono fun b _ hb => .inl hb)).trans (hcp.mono fun b _ hb => .inr hb)
    ·exact((hc.trans' hcb fun b _ hb=>by omega).trans hc3).trans' hcp fun b _ hb=>by omega
   rintro e a3 W3 hp
   cases e with
   | normal =>
    obtain⟨hc3,hi3⟩:=hp;obtain⟨hr,hcp,hcW,hcw,hl4,hk4⟩:=fin none W3 hc3;exact⟨_,_,hr,hcW,rfl,hI _ _ _ hi3 (nZ _ _ hcp),hcw,hl4,hk4⟩
   | ret=>exact hp.2.elim
   | exit id=>exact hp.2.elim
   | goto t=>exact hp.2.elim
   | panic ch=>exact hp.elim
   | outgrown=>exact hp.elim
  ·exact(hb1.cell (p:=⟨pb,0,none⟩) (World.block_lt_of_cell? w _ hp)).trans hp
  ·rintro e W2 ⟨⟨v,rfl⟩,hc2,hi,hc,hl,hk⟩
   refine⟨none,_,by have:=run_endLoop (P:=Tryz.prog) hl (by rw[hrec];simp);rw[hrec]at this;exact this,?_⟩;have hcp:=aH.putObj W2 (w.heap.size+1) (.loop { rec .ready none with state := .exhausted });rw[hrec]at hcp;exact hdone _ (hc.trans' hcp fun b _ hb=>by omega) (hI _ _ _ hi (nZ _ _ hcp)) (hcp.box hk (by omega))
theorem rZ (p:Option Addr)(w:World) :
  Calls Tryz.prog 43 #[.pointer p] w fun e w'=>e = .returned (.func (.func 89) #[] #[.pointer (some ⟨w.heap.size,0,none⟩)])/\w'=w.alloc (.cells #[.pointer p] 67):=by
 have hmf:∀(fn:Fn) (first cap:Array Value) (w:World),(Instr.makeFunc fn first cap).run Tryz.prog w = .ok (.func fn first cap) w:=fun _ _ _ _=>rfl
 go_enter Tryz.func43,Tryz.ntmps43
 go_wp2_with fail
 go_ret
 exact⟨rfl,rfl⟩
end Go.Proofs.YtdpbgcmfeajigaaGreatDoor
namespace Go.Proofs.YtdpbgcmfeajigaaGreatDoor
open Go.RowKit Go.Shelf
attribute [local go_sem] ak run_store_func
def QY (ds:List Nat):List Deferred:=ds.map fun D => { target := .collected D,args := #[] }
structure oM (w:World) (ds:List Nat):Prop where
 nd:ds.Nodup
 at_:∀D,D∈ds->w.heap[D]?=some (.deferred (some []))
theorem oM.nil (w:World):oM w []:=⟨List.nodup_nil,fun _ h=>by cases h⟩
theorem oM.dX {w w':World}{ds:List Nat}{V:Dom}(h:oM w ds)(hc:aH V w w')(hv:∀D,D∈ds->¬V D):oM w' ds:=⟨h.nd,fun D hD=>(hc.block D (by have:=h.at_ D hD;exact(Array.getElem?_eq_some_iff.1 this).1) (hv D hD)).trans (h.at_ D hD)⟩
theorem oM.lt {w:World}{ds:List Nat}(h:oM w ds){D:Nat}(hD:D∈ds):D<w.heap.size:=(Array.getElem?_eq_some_iff.1 (h.at_ D hD)).1
theorem oM.cons {w:World}{ds:List Nat}{D:Nat}(h:oM w ds)(hD:w.heap[D]?=some (.deferred (some [])))(hn:¬D∈ds):oM w (D :: ds):=⟨List.nodup_cons.2 ⟨hn,h.nd⟩,fun E hE=>by
 rcases List.mem_cons.1 hE with rfl|hE
 ·exact hD
 ·exact h.at_ E hE⟩
theorem Au {P:Program}{fn:Func}{T:Array Value}{R:Ending->World->Prop}{v:Value}:∀(ds:List Nat) (w:World),oM w ds ->
  (∀w',aH (fun b=>b∈ds) w w'->(results fn T).run P w' = .ok v w')->(∀w',aH (fun b=>b∈ds) w w'->R (.returned v) w')->LeavesInM Fence.wide 3 P fn T R (QY ds) .returning w
 | [],w,hm,hr,h=>⟨v,hr w (aH.refl _ _),h w (aH.refl _ _)⟩
 | D :: ds,w,hm,hr,h=>by
  refine⟨by simp,.inl ⟨_,_,rfl,run_takeDeferred (hm.at_ D (by simp)),?_⟩⟩;have hc0:=aH.putObj w D (.deferred none);have hm':=(oM.dX (ds:=ds) ⟨(List.nodup_cons.1 hm.nd).2,fun E hE=>hm.at_ E (List.mem_cons_of_mem _ hE)⟩ hc0 fun E hE e=>(List.nodup_cons.1 hm.nd).1 (by subst e;exact hE));refine Au ds _ hm' (fun w' hc=>hr w' ?_) (fun w' hc=>h w' ?_)
  ·exact(hc0.mono fun b _ hb=>by subst hb;simp).trans (hc.mono fun b _ hb=>List.mem_cons_of_mem _ hb)
  ·exact(hc0.mono fun b _ hb=>by subst hb;simp).trans (hc.mono fun b _ hb=>List.mem_cons_of_mem _ hb)
theorem zn {P:Program}{fn:Func}{R:Ending->World->Prop}{a:Act}{w:World}{ds:List Nat}{v:Value}(hd:a.defers=QY ds)(hm:oM w ds)
  (hr:∀w',aH (fun b=>b∈ds) w w'->(results fn a.tmps).run P w' = .ok v w') (h:∀w',aH (fun b=>b∈ds) w w'->R (.returned v) w'):bodyPostM Fence.wide 3 P fn R .ret a w:=by
 show LeavesInM Fence.wide 3 P fn a.tmps R a.defers .returning w;rw[hd];exact Au ds w hm hr h
theorem I8 (A:Option Addr){n c k:Nat}(h:k<=c)(w:World):(Instr.slice 22 (.slice A n c) none (some (.int .i64 (k:Int))) none).run Tryz.prog w = .ok (.slice A k c) w:=by
 obtain⟨i0,hti,hz0,hz1,hz2⟩:=info_parts iH;have ht:Tryz.prog.underlying 22=some (.slice 24):=Tryz.underlying22;have ht':Tryz.prog.underlying 22=some (.slice (Tryz.prog.elem 22)):=by simp[Program.elem,ht]
 have he:Tryz.prog.elem 22=24:=by simp[Program.elem,ht]
 have hsz:∀w,(Go.sizeOf 24).run Tryz.prog w = .ok 5 w:=fun w=>by simp[sizeOf,typeInfo,hti,hz1]
 rw[run_slice_h w 22 _ _ _ ht' .i64 _ (by omega) (by omega),he,hsz]
 cases A <;> simp[Result.andThen,sliced,Addr.add]
theorem bV.take {w:World}{D:Dom}{l:List Fm}{A:Option Addr}{c k:Nat}(h:bV w D l A c)(hk:k<=l.length):bV w D (l.take k) A c:=by
 obtain⟨sl,h1,h2,h3⟩:=h.out;have hl:(l.take k).length=k:=by rw[List.length_take];omega
 have hcells:bP (l.take k) (sl.take k)=(bP l sl).take (k*5):=by
  have e1:l=l.take k++l.drop k:=(List.take_append_drop k l).symm;have e2:sl=sl.take k++sl.drop k:=(List.take_append_drop k sl).symm;have e3:(sl.take k).length=(l.take k).length:=by rw[List.length_take,List.length_take,h1]
  conv=>rhs;rw[e1,e2]
  rw[oG e3,List.take_left' (by rw[iO e3,hl])]
 refine .mk _ _ _ (sl.take k) (by rw[List.length_take,List.length_take,h1]) ?_ fun i hi=>?_
 ·rw[hl,hcells]
  exact h2.take hk
 ·rw[hl]at hi
  have e1:(l.take k).getD i default=l.getD i default:=zk hi;have e2:(sl.take k).getD i (none,0)=sl.getD i (none,0):=by simp only[List.getD_eq_getElem?_getD];rw[List.getElem?_take_of_lt hi]
  rw[e1,e2];exact h3 i (by omega)
theorem Gx {t u:TypeId}{a b:Value}{r:Bool}{P:Program}{w:World}(h:(binOp .eql t a b).run P w = .ok (.bool r) w)(hp:∃te,P.underlying t=some (.pointer te))(ha:∃p,a = .pointer p)(hb:∃p,b = .pointer p):(binOp .neq t a b).run P w = .ok (.bool (!r)) w:=by
 obtain⟨p,rfl⟩:=ha;obtain⟨q,rfl⟩:=hb;simp only[binOp]at h⊢
 generalize he:(Op.equal t (Value.pointer p) (Value.pointer q)).run P w=x at *
 simp[he]at h⊢
 cases x <;> simp_all [Result.andThen]
theorem CG {w:World}{b o:Nat}:(binOp .neq 67 (.pointer (some ⟨b,o,none⟩)) (.pointer (some ⟨b,o,none⟩))).run Tryz.prog w = .ok (.bool false) w :=
 Gx (u:=0) tC ⟨_,Tryz.underlying67⟩ ⟨_,rfl⟩ ⟨_,rfl⟩
theorem KE {w:World}{b o b' o':Nat}{v v':Value}(h:w.cell? ⟨b,o,none⟩=some v)(h':w.cell? ⟨b',o',none⟩=some v')(hc:Cl w b\/Cl w b')(hne:¬(b=b'/\o=o')) :
  (binOp .neq 67 (.pointer (some ⟨b,o,none⟩)) (.pointer (some ⟨b',o',none⟩))).run Tryz.prog w = .ok (.bool true) w :=
 Gx (u:=0) (Ad h h' hc hne) ⟨_,Tryz.underlying67⟩ ⟨_,rfl⟩ ⟨_,rfl⟩
theorem jm {l:List Fm}(h:kY l=true):l.length<=8/\∀i,i<l.length->kX (l.getD i default).op=true/\bG (l.getD i default)=true/\allB fC (l.getD i default)=true/\findF (l.take i) (l.getD i default) = -1/\∀g,g∈aX (l.getD i default)->g≠l.getD i default->0<=findF (l.take i) g:=by
 unfold kY at h;rw[Bool.and_eq_true,decide_eq_true_eq,iW]at h;refine⟨h.1,fun i hi=>?_⟩;have h2:=h.2 i hi;simp only[Bool.and_eq_true,decide_eq_true_eq,List.all_eq_true]at h2;obtain⟨⟨⟨⟨a1,a2⟩,a3⟩,a4⟩,a5⟩:=h2;refine⟨a1,a2,a3,?_,fun g hg hne=>?_⟩
 ·unfold findF
  rw[if_neg];intro hm;have:=(Jg (g:=l.getD i default) (l:=l) (k:=i) (by omega)).1 (qm.2 hm);omega
 ·have h5:=a5 g hg
  have h6:jQ g l≠i:=fun e=>hne (by rw[<-e];exact(oI (by omega)).symm);have h7:g∈l.take i:=qm.1 ((Jg (by omega)).2 (by omega));unfold findF;rw[if_pos h7];omega
end Go.Proofs.YtdpbgcmfeajigaaGreatDoor
