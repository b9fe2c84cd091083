/-
  Parts of a proof: UQ UR US UT.
-/
import Derived.Test.YtdpbgcmfeajigaaGreatDoorD28
set_option linter.unusedSimpArgs false
set_option linter.unusedVariables false
set_option maxHeartbeats 8000000
set_option maxRecDepth 100000
namespace Go.Proofs.YtdpbgcmfeajigaaGreatDoor
open Go.RowKit Go.Shelf
attribute [local go_sem] ak run_store_func Oper.semAt_some
def mY (w:World)(tb:Nat)(AS:Option Addr)(m cS:Nat)(V:Option Addr)(lv cv:Nat)(A:Option Addr)(n c:Nat)(mem:Int):Prop :=
 w.heap[tb]?=some (.cells #[.slice AS m cS,.slice V lv cv,.slice A n c,.int .i64 mem] 130 (0,0))
theorem mY.cells {w:World}{tb:Nat}{AS:Option Addr}{m cS:Nat}{V:Option Addr}{lv cv:Nat}{A:Option Addr}{n c:Nat}{mem:Int}(h:mY w tb AS m cS V lv cv A n c mem) :
  w.cell? ⟨tb,0,none⟩=some (.slice AS m cS)/\w.cell? ⟨tb,1,none⟩=some (.slice V lv cv)/\w.cell? ⟨tb,2,none⟩=some (.slice A n c)/\w.cell? ⟨tb,3,none⟩=some (.int .i64 mem)/\tb<w.heap.size :=
 ⟨aj h (i:=0) rfl,aj h (i:=1) rfl,aj h (i:=2) rfl,aj h (i:=3) rfl,lt_of_block h⟩
theorem mY.below {w w':World}{tb:Nat}{AS:Option Addr}{m cS:Nat}{V:Option Addr}{lv cv:Nat}{A:Option Addr}{n c:Nat}{mem:Int}(h:mY w tb AS m cS V lv cv A n c mem)(hb:Below w.heap.size w w'):mY w' tb AS m cS V lv cv A n c mem:=(hb.block _ (lt_of_block h)).trans h
def uZ (l:List Sg)(x:Int)(k:Nat):List Int:=(List.range k).map (fZ l x)
theorem RP (l:List Sg)(x:Int)(k:Nat):uZ l x (k+1)=uZ l x k ++ [fZ l x k]:=by unfold uZ;rw[List.range_succ,List.map_append];rfl
theorem JB (l:List Sg)(x:Int)(k:Nat):(uZ l x k).length=k:=by unfold uZ;simp
theorem Zd {l:List Sg}{x:Int}{k i:Nat}(h:i<k):(uZ l x k).getD i 0=fZ l x i:=by unfold uZ;simp[List.getD,h]
def zG (l:List Sg)(AS:Option Addr)(cS m:Nat)(A:Option Addr)(c n:Nat)(mem:Nat)(x:Int)(w:World)(e:Ending)(w':World):Prop :=
 ∃(tb:Nat) (V:Option Addr) (cv:Nat),e = .returned (.tuple #[.pointer (some ⟨tb,0,none⟩),.bool true])/\w.heap.size<=tb/\mY w' tb AS m cS V m cv A n c (mem:Int)/\o7 w' (fun b=>w.heap.size<=b) V cv (uZ l x m)/\Below w.heap.size w w'
theorem GH {D E:Dom}(l:List Sg)(AS:Option Addr)(cS m:Nat)(gs:List Fm)(A:Option Addr)(c n:Nat)(mem:Nat)(x:Int)(w:World)(hm:m=l.length)(hG:lV w E AS cS l)(hn:n=gs.length)(h:bP w D gs A c)(hcl:∀b,D b->Cl w b)(hL:kC gs=true)(hg:GF w)(hk:GK w)
  (hmem:mem<2 ^ n) (hx0:0<=x) (hx1:x<bZ l) :
  Calls Tryz.prog 64 #[.slice AS m cS,.slice A n c,.int .i64 (mem:Int),.int .i64 x] w (zG l AS cS m A c n mem x w):=by
 have HG:=hid hG;have HM:=hid hm;have HK:=hid hk;have hml:m<=6:=by rw[hm];exact(fM (mg hx0 hx1).1).2.1
 have HIM:=hid (uw gs A c n (mem:Int) w hn h hcl hL hg hk);have HV:=hid (show(decide (0<=(mem:Int))&&decide ((mem:Int)<((2 ^ n:Nat):Int)))=true by rw[decide_eq_true (by omega),decide_eq_true (by omega)];rfl);rw[HV.out]at HIM;have HX0:=hid hx0;have uP:=hid hx1
 have HIMB:Hid (∀W,Below w.heap.size w W->Calls Tryz.prog 76 #[.slice A n c,.int .i64 (mem:Int)] W fun e w'=>e = .returned (.bool true)/\Below W.heap.size W w'):=hid fun W hb=>by
  have:=uw (D:=fun k=>D k/\k<w.heap.size) gs A c n (mem:Int) W hn ((h.mono fun k hk hl=>⟨hk,hl⟩).keep (Keeps.of_below hb fun _ h=>h.2)) (fun b hb'=>(hcl b hb'.1).of_eq (hb.block b hb'.2)) hL (hg.below hb hg.pos) (hk.below hb hk.pos);rw[HV.out]at this;exact this
 obtain⟨z,hz⟩:∃z,z=bZ l:=⟨_,rfl⟩;have ZN:=hid (Du l AS m cS w hm hG hk);rw[<-hz]at hx1 ZN;have HZ:=hid hz;have dx1:¬x<0:=by omega
 have dx2:¬z<=x:=by omega
 have dz1:decide (x<0)=false:=decide_eq_false dx1;have dz2:decide (z<=x)=false:=decide_eq_false dx2;clear hG hm h hcl hL hg hk hmem hz hx0 hx1 hn;obtain⟨i0,hti,hz0,hz1,hz2⟩:=info_parts FM
 go_enter Tryz.func64,Tryz.ntmps64
 go_upto_region 4 with(first
  | (go_at_call 101;(with_reducible refine ZN.out.mono ?_);rintro e W1 ⟨rfl,hb1⟩;have HB1:=hid hb1;clear hb1)
  | (go_at_call 76;(refine(HIMB.out _ HB1.out).mono ?_);rintro e W2 ⟨rfl,hb2⟩;have HB2:=hid (au HB1.out hb2);clear hb2))
 refine aI fun U hU=>?_;obtain⟨tb,htb⟩:∃tb,W2.heap.size=tb:=⟨_,rfl⟩;have HT0:=hid (show mY U tb AS m cS none 0 0 A n c (mem:Int)by unfold mY;rw[hU,<-htb];exact at_new _ _ _ rfl);have HB0:=hid (show Below w.heap.size w U by rw[hU];exact HB2.out.alloc HB2.out.size _);have HTB:=hid (show w.heap.size<=tb/\U.heap.size=tb+1 by rw[<-htb];exact⟨HB2.out.size,by rw[hU];simp⟩);rw[htb];clear hU htb;go_wp2_with fail
 go_loopw [33] (fun r wr=>∃(k:Nat) (V:Option Addr) (cv:Nat),k<=m/\r = .int .i64 (k:Int)/\mY wr tb AS m cS V k cv A n c (mem:Int)/\wr.ownsRow (tb+1) 3 1 (.slice V k cv) k ((uZ l x k).map (.int .i64))/\Below w.heap.size w wr/\tb+1<=wr.heap.size) (fun r _=>m-(intOf r).toNat)
 case atStart=>exact⟨0,none,0,Nat.zero_le _,rfl,HT0.out,⟨rfl,.inl ⟨rfl,rfl⟩⟩,HB0.out,by have:=HTB.out;omega⟩
 case round =>
  obtain⟨k,V,cv,hkm,rfl,hT,hO,hbl,hsz⟩:=hrel;have HT:=hid hT;have HO:=hid hO;have bQ:=hid hbl;have jQ:=hid hsz;clear hT hO hbl hsz
  by_cases hlt:k<m
  ·have hii:(k:Int)<(m:Int):=by omega
   have fQ:=hid hlt
   have WZ:Hid (∀W,Below wr.heap.size wr W->Calls Tryz.prog 102 #[.slice AS m cS,.int .i64 x,.int .i64 (k:Int)] W fun e w'=>e = .returned (.int .i64 (fZ l x k))/\Below wr.heap.size wr w'):=hid fun W hb=>by
    refine(JC l AS m cS x k W HM.out (HG.out.any (au bQ.out hb)) (HK.out.below (au bQ.out hb) HK.out.pos) HX0.out uP.out (by rw[<-HM.out];exact fQ.out)).mono ?_;rintro e w' ⟨rfl,hb'⟩;exact⟨rfl,au hb hb'⟩
   have OC:=hid (RP l x k);obtain⟨vz,hvz⟩:∃vz,fZ l x k=vz:=⟨_,rfl⟩;rw[hvz]at WZ OC;obtain⟨t0,t1,t2,t3,t4⟩:=HT.out.cells;clear hlt hvz hkm t0 t2 t3;go_upto_region 7 with(fail)
   refine iG (fun W':World=>W'.cell? ⟨tb,1,none⟩=some (.slice V k cv)) (by kernel_rfl) (by kernel_rfl) (by kernel_rfl) t1 (fun hHeld=>?_);simp only[List.dropLast_cons_cons,List.dropLast_singleton,List.getLast_cons_cons,List.getLast_singleton];refine iZ 0 ?_ rfl (by kernel_rfl) (fun _ _ _ h=>h) ?_ (by assumption) ?_
   rotate_left
   ·intro w hSw;(try dsimp only at hSw);go_simp;(try(with_reducible rfl))
   try simp only[Act.put,dI,dJ,dK]
   refine iZ 1 ?_ rfl (by kernel_rfl) (fun _ _ _ h=>h) ?_ (by assumption) ?_
   rotate_left
   ·intro w hSw;(try dsimp only at hSw);go_simp;(try(with_reducible rfl))
   try simp only[Act.put,dI,dJ,dK]
   refine iZ 2 ?_ rfl (by kernel_rfl) (fun _ _ _ h=>h) ?_ (by assumption) ?_
   rotate_left
   ·intro w hSw;(try dsimp only at hSw);go_simp;(try(with_reducible rfl))
   try simp only[Act.put,dI,dJ,dK]
   refine iZ 3 ?_ rfl (by kernel_rfl) (fun _ _ _ h=>h) ?_ (by assumption) ?_
   rotate_left
   ·intro w hSw;(try dsimp only at hSw);go_simp;(try(with_reducible rfl))
   try simp only[Act.put,dI,dJ,dK]
   refine iZ 4 ?_ rfl (by kernel_rfl) (fun _ _ _ h=>h) ?_ (by assumption) ?_
   rotate_left
   ·intro w hSw;(try dsimp only at hSw);go_simp;(try(with_reducible rfl))
   try simp only[Act.put,dI,dJ,dK]
   refine iZ 5 ?_ rfl (by kernel_rfl) (fun _ _ _ h=>h) ?_ (by assumption) ?_
   rotate_left
   ·intro w hSw;(try dsimp only at hSw);go_simp;(try(with_reducible rfl))
   try simp only[Act.put,dI,dJ,dK]
   refine iZ 6 ?_ rfl (by kernel_rfl) (fun _ _ _ h=>h) ?_ (by assumption) ?_
   rotate_left
   ·intro w hSw;(try dsimp only at hSw);go_simp;(try(with_reducible rfl))
   try simp only[Act.put,dI,dJ,dK]
   refine iZ 7 ?_ rfl (by kernel_rfl) (fun _ _ _ h=>h) ?_ (by assumption) ?_
   rotate_left
   ·intro w hSw;(try dsimp only at hSw);go_simp;(try(with_reducible rfl))
   try simp only[Act.put,dI,dJ,dK]
   refine rQ 8 (by kernel_rfl) rfl fun K hK=>?_
   go_simp
   (go_at_call 102;(with_reducible refine(WZ.out _ ?_).mono ?_);exact(Below.refl _ _).drew;rintro e W1 ⟨rfl,hb1⟩;have Zx:=hid hb1;clear hb1)
   go_wp2_with fail
   refine hK.out _ _ ?_ (fun hHeld=>?_)
   ·exact(HT.out.below Zx.out).cells.2.1
   clear hK K
   try simp only[Act.put,dI,dJ,dK]
   refine rQ 9 (by kernel_rfl) rfl fun K hK=>?_
   go_simp
   refine hK.out _ _ ?_ (fun hHeld=>?_)
   ·exact(ak _ _ _ (Nat.lt_of_lt_of_le t4 Zx.out.size)).trans (HT.out.below Zx.out).cells.2.1
   clear hK K
   try simp only[Act.put,dI,dJ,dK]
   refine dH (fun wA hwA hHeld=>?_) hHeld;have Fz:Below W1.heap.size W1 wA:=by rw[hwA];exact(Below.refl _ _).alloc (Nat.le_refl _) _
   have OU:Rd wA bC 1 (some ⟨W1.heap.size,0,none⟩) 1 1 [.int .i64 vz]:=by rw[hwA];exact Rd.fresh (D:=bC) rfl trivial (by simp) (by omega)
   have oW:=hid (au Zx.out Fz);have BJ:wA.ownsRow (tb+1) 3 1 (.slice V k cv) k ((uZ l x k).map (.int .i64)):=Am HO.out (V:=fun _=>False) (aH.aS oW.out) fun _ _ h=>h;clear hwA Fz;refine rQ 10 (by kernel_rfl) rfl fun K hK=>?_;refine cO _ (by rfl) _ _ 35 (by rfl) (tb+1) 3 i0 _ 1 8 Tryz.underlying35 hti hz0 hz1 hz2 rfl (by omega) (.slice V k cv) k _ (by rfl) BJ _ (some ⟨W1.heap.size,0,none⟩) 1 1 _ (by rfl) OU (by simp[Value.oneCell']) (by have:=fQ.out;omega) (dB (by have:=fQ.out;omega)) (by have:=jQ.out;have:=oW.out.size;omega) ?_;intro A7 c77 w7 oG qM vZ
   have hne:∀k',(Value.slice V k cv).ownBlock=some k'->tb+1<=k':=fun k' hk=>by
    rcases BJ.2 with⟨h0,_⟩|⟨g',cap,cur,hv',hb,hg',_⟩
    ·rw[h0]at hk;cases hk
    ·rw[hv']at hk
     have e1:g'=k':=Option.some.inj hk;omega
   have Tj:∀b',b'<wA.heap.size->b'<tb+1->w7.heap[b']?=wA.heap[b']?:=fun b' h1 h2=>qM.block b' h1 (fun e=>by have:=hne _ e.symm;omega);have hT7:mY w7 tb AS m cS V k cv A n c (mem:Int):=(Tj _ (Nat.lt_of_lt_of_le t4 oW.out.size) (by omega)).trans (HT.out.below oW.out);have vK:=hid (show Below w.heap.size w w7 from(au bQ.out oW.out).trans ⟨qM.os,qM.tape,qM.output,qM.size,fun b hb=>Tj b (Nat.lt_of_lt_of_le hb (au bQ.out oW.out).size) (by have:=HTB.out;omega)⟩);have HS7:=hid (show tb+1<=w7.heap.size by have:=jQ.out;have:=oW.out.size;have:=qM.size;omega);refine hK.out _ _ ?_ (fun hHeld=>?_)
   ·exact hT7.cells.2.1
   clear hK K
   try simp only[Act.put,dI,dJ,dK]
   refine iZ 11 ?_ rfl (by kernel_rfl) (fun _ _ _ h=>h) ?_ (by assumption) ?_
   rotate_left
   ·intro w hSw;(try dsimp only at hSw);go_simp;(try(with_reducible rfl))
   try simp only[Act.put,dI,dJ,dK]
   refine iZ 12 ?_ rfl (by kernel_rfl) (fun _ _ _ h=>h) ?_ (by assumption) ?_
   rotate_left
   ·intro w hSw;(try dsimp only at hSw);go_simp;(try(with_reducible rfl))
   try simp only[Act.put,dI,dJ,dK]
   have HT7:=hid hT7;have qbs:=hid oG;have f7:=aB hT7 (i:=1);have c7:=hT7.cells.2.1;have l7:=hT7.cells.2.2.2.2;clear hT7 oG qM Tj vZ hHeld BJ OU hne t1 t4;refine wpAnyH_done (by kernel_rfl) ?_ _;unfold jS
   go_simp
   go_wp2_with fail
   go_roundw
   case rel =>
    obtain⟨w8,hw8⟩:∃w8,w8=w7.setCell ⟨tb,1,none⟩ (.slice A7 (k+1) c77):=⟨_,rfl⟩;have FC:aH (fun b=>b=tb) w7 w8:=by rw[hw8];exact(aH.refl (fun b=>b=tb) w7).set ⟨tb,1,none⟩ _ fun _=>rfl
    rw[<-hw8];refine⟨k+1,A7,c77,by have:=fQ.out;omega,by go_num,?_,?_,vK.out.trans (FC.below (fun b hb h=>by have:=HTB.out;omega) vK.out.size),by have:=HS7.out;have:=FC.size;omega⟩
    ·unfold mY
     rw[hw8,aC HT7.out];rfl
    ·rw[OC.out,List.map_append]
     refine Am qbs.out FC fun k' hk' hv=>?_;have hv:k'=tb:=hv
     rcases qbs.out.2 with⟨h0,_⟩|⟨g',cap,cur,hv',hb',hg',_⟩
     ·rw[h0]at hk';cases hk'
     ·rw[hv']at hk'
      have e1:g'=k':=Option.some.inj hk';omega
   case measure=>have:=fQ.out;simp[intOf];omega
  ·have hii:¬(k:Int)<(m:Int):=by omega
   have hkm2:k=m:=by omega
   subst hkm2;clear hlt;go_wp2_with fail
   refine bodyPost_ret (v := .tuple #[.pointer (some ⟨tb,0,none⟩),.bool true]) (by simp[results,Tryz.results64,go_sem]) rfl ⟨tb,V,cv,rfl,HTB.out.1,HT.out,?_,bQ.out⟩;have h3:=Rd.own HO.out (D:=fun b=>w.heap.size<=b) (by omega) (fun g hg=>by have:=HTB.out;omega);unfold o7;rw[JB];exact h3
end Go.Proofs.YtdpbgcmfeajigaaGreatDoor
namespace Go.Proofs.YtdpbgcmfeajigaaGreatDoor
open Go.RowKit Go.Shelf
attribute [local go_sem] ak run_store_func Oper.semAt_some
structure zF (l:List Sg) (AS:Option Addr) (cS m:Nat) (gs:List Fm) (A:Option Addr) (c n mem:Nat) (x:Int) (tb:Nat) (V:Option Addr) (cv:Nat) (w:World):Prop where
 hm:m=l.length
 hn:n=gs.length
 t:mY w tb AS m cS V m cv A n c (mem:Int)
 g:lV w bC AS cS l
 v:o7 w bC V cv (uZ l x m)
 f:bP w (Cl w) gs A c
 L:kC gs=true
 mem:mem<2 ^ n
 m6:m<=6
section
variable {l:List Sg}{AS:Option Addr}{cS m:Nat}{gs:List Fm}{A:Option Addr}{c n mem:Nat}{x:Int}{tb:Nat}{V:Option Addr}{cv:Nat}{w w':World}
theorem bP.aW {l:List Fm}{A:Option Addr}{c:Nat}(h:bP w (Cl w) l A c)(hb:Below w.heap.size w w'):bP w' (Cl w') l A c :=
 ((h.mono (E:=fun k=>Cl w k/\k<w.heap.size) fun k hk hl=>⟨hk,hl⟩).keep (Keeps.of_below hb fun _ h=>h.2)).mono fun k hk _=>hk.1.of_eq (hb.block k hk.2)
theorem zF.below (h:zF l AS cS m gs A c n mem x tb V cv w)(hb:Below w.heap.size w w'):zF l AS cS m gs A c n mem x tb V cv w' :=
 ⟨h.hm,h.hn,h.t.below hb,h.g.any hb,(h.v.old.keep (Keeps.of_below hb fun _ h=>h)).mono fun _ _ _=>trivial,h.f.aW hb,h.L,h.mem,h.m6⟩
theorem zF.n8 (h:zF l AS cS m gs A c n mem x tb V cv w):n<=8/\mem<256:=by
 have h1:n<=8:=by rw[h.hn];exact(ji h.L).1
 have h2:=KI h1;exact⟨h1,Nat.lt_of_lt_of_le h.mem h2⟩
end
theorem Oe (gs:List Fm)(mem:Nat)(f:Fm):cu gs mem f=decide (mem / 2 ^ jy f gs % 2=1):=by
 unfold cu;rw[Nat.testBit_eq_decide_div_mod_eq]
theorem Gp {l:List Sg}{AS:Option Addr}{cS m:Nat}{gs:List Fm}{A:Option Addr}{c n mem:Nat}{x:Int}{tb:Nat}{V:Option Addr}{cv:Nat}{F:Dom}(f:Fm)(fb fo:Nat)(A2:Option Addr)(c2:Nat)(w:World)(hT:zF l AS cS m gs A c n mem x tb V cv w)(hf:dP w F fb fo f A2 c2)(hm:f∈gs) :
  Calls Tryz.prog 104 #[.pointer (some ⟨tb,0,none⟩),.pointer (some ⟨fb,fo,none⟩)] w fun e w'=>e = .returned (.bool (cu gs mem f))/\Below w.heap.size w w':=by
 have HT:=hid hT;have HF:=hid hf.old;obtain⟨t0,t1,t2,t3,t4⟩:=hT.t.cells;have hk:jy f gs<gs.length:=qQ.2 hm;have hfi:findF gs f=(jy f gs:Int):=by unfold findF;rw[if_pos hm]
 have OT:=hT.n8;have hn:=hT.hn;obtain⟨k,hke⟩:∃k,jy f gs=k:=⟨_,rfl⟩;rw[hke]at hk hfi;obtain⟨q,hq⟩:∃q,mem / 2 ^ k=q:=⟨_,rfl⟩
 have hqi:(mem:Int) / 2 ^ k=(q:Int):=by
  rw[<-hq];simp
 have hql:q<=mem:=by rw[<-hq];exact Nat.div_le_self _ _
 have hb:=zK (a:=q) (by omega);have HS:=hid (Oe gs mem f);rw[hke,hq]at HS;obtain⟨r,hr⟩:∃r,q % 2=r:=⟨_,rfl⟩;rw[hr]at hb HS
 have HSB:=hid (show((r:Int)==1)=cu gs mem f by
  rw[HS.out]
  by_cases e:r=1
  ·subst e;rfl
  ·rw[decide_eq_false e];exact bW (by omega))
 have h0:(0:Int)<=(k:Int):=by omega
 have h1:(k:Int)<=64:=by omega
 have AY:Hid (∀W,Below w.heap.size w W->Calls Tryz.prog 44 #[.slice A n c,.pointer (some ⟨fb,fo,none⟩)] W fun e w'=>e = .returned (.int .i64 (k:Int))/\Below w.heap.size w w'):=hid fun W hb=>by
  refine(sO gs A c n f fb fo A2 c2 W (HT.out.hn) (HT.out.below hb).f (HF.out.keep (Keeps.of_below hb fun _ h=>h)) (fun g hg=>nI HT.out.L hg) (.inl fun _ h=>h)).mono ?_;rintro e w' ⟨rfl,hb'⟩;exact⟨by rw[hfi],au hb hb'.below⟩
 have aK:Hid (∀W':World,Below w.heap.size w W'->W'.cell? ⟨tb,2,none⟩=some (.slice A n c)/\W'.cell? ⟨tb,3,none⟩=some (.int .i64 (mem:Int))):=hid fun W' hb =>
  ⟨(HT.out.t.below hb).cells.2.2.1,(HT.out.t.below hb).cells.2.2.2.1⟩
 have HI0:=hid (Below.refl w.heap.size w);have HI1:=hid (show Below w.heap.size w w.drew from(Below.refl w.heap.size w).drew);have HI2:=hid (show∀i,Below w.heap.size w (w.drewN i)from fun i=>below_drewN (Below.refl w.heap.size w) i);clear hT hf hm hk hfi OT hn hke hq hql hr t0 t1
 go_enter Tryz.func104,Tryz.ntmps104
 go_upto_region 1 with(fail)
 go_region_held3 (fun W':World=>W'.cell? ⟨tb,2,none⟩=some (.slice A n c)/\W'.cell? ⟨tb,3,none⟩=some (.int .i64 (mem:Int)))
  (first|(with_reducible exact aK.out _ hI)|(go_keep;done))
  ((go_at_call 44;(with_reducible refine(AY.out _ (by first|exact HI0.out|exact HI1.out|exact HI2.out _)).mono ?_);rintro e W9 ⟨rfl,hI⟩))
 all_goals
  have HI:=hid hI;clear hI;go_wp2_with fail
  go_ret
  exact⟨by rw[<-HSB.out];rfl,HI.out⟩
end Go.Proofs.YtdpbgcmfeajigaaGreatDoor
namespace Go.Proofs.YtdpbgcmfeajigaaGreatDoor
open Go.RowKit Go.Shelf
attribute [local go_sem] ak run_store_func Oper.semAt_some
def lT (l:List Sg)(x:Int)(n:ByteArray)(v:Int):Bool:=decide (gy l n<l.length)&&(fZ l x (gy l n)==v)
def qe2 (l:List Sg)(AS:Option Addr)(cS m:Nat)(gs:List Fm)(A:Option Addr)(c n mem:Nat)(x:Int)(tb:Nat)(V:Option Addr)(cv:Nat)(f:Fm):Prop :=
 ∀(F:Dom) (fb fo:Nat) (A2:Option Addr) (c2:Nat) (w:World),zF l AS cS m gs A c n mem x tb V cv w->dP w F fb fo f A2 c2 ->
  Calls Tryz.prog 66 #[.pointer (some ⟨tb,0,none⟩),.pointer (some ⟨fb,fo,none⟩)] w fun e w'=>e = .returned (.bool (fA (lT l x) (cu gs mem) f))/\Below w.heap.size w w'
theorem qa4 {f:Fm}(h:aV f=true)(hp:allB dO f=true):f.op=1\/f.op=2\/f.op=3\/f.op=4\/f.op=5\/f.op=6\/f.op=15\/f.op=16\/f.op=17:=by
 have h1:=jk (lD (bT.1 (iq h).2.2).1).1;have h2:=(bT.1 (qj.1 hp)).1;unfold dO at h2;have h3:(aA f.op).future=false:=by simpa using h2
 unfold nY at h1
 have key:∀o:Int,(aA o).future=false->¬(o=8\/o=9\/o=10):=by
  rintro o ho (rfl|rfl|rfl) <;> exact absurd ho (by decide)
 have:=key _ h3;omega
theorem KD {l:List Sg}{AS:Option Addr}{cS m:Nat}{gs:List Fm}{A:Option Addr}{c n mem:Nat}{x:Int}{tb:Nat}{V:Option Addr}{cv:Nat}(f:Fm)(hl:aV f=true)(hp:allB dO f=true)(hm:∀g,g∈aZ f->g∈gs):qe2 l AS cS m gs A c n mem x tb V cv f:=by
 refine Fm.sV (P:=fun f=>aV f=true->allB dO f=true->(∀g,g∈aZ f->g∈gs)->qe2 l AS cS m gs A c n mem x tb V cv f) ?_ f hl hp hm;clear hl hp hm f;intro f ih hl hp hm F fb fo A2 c2 w hT hf;have HIH:=hid fun g (hg:g∈f.args)=>ih g hg (xP hg hl) (tq hp hg) (fun y hy=>hm y (qc hg hy));have HT:=hid hT;have HF:=hid hf.old;have GZ:=hid (pJ (lT l x) (cu gs mem) f);have AX:=hid (ug (fG hl));have HPM:=hid (fun h:jV f.op=true=>hm f (qE h));have hop:=qa4 hl hp;have hal:=hf.args.len.1;obtain⟨_,q1,p0,p1,p2,p3,p4,_⟩:=hf;obtain⟨t0,t1,t2,t3,t4⟩:=hT.t.cells;obtain⟨N,hN⟩:∃N,N=f.args.length:=⟨_,rfl⟩;rw[<-hN]at p4 hal;have HN:=hid hN;clear ih hl hp hm hT hN t2 t3
 rcases hop with e|e|e|e|e|e|e|e|e
 ·have HV:=hid (show fA (lT l x) (cu gs mem) f=true by rw[GZ.out,e];rfl)
  rw[e]at p0;rw[HV.out];clear e p1 p2 p3 p4 t0 t1 hal
  go_enter Tryz.func66,Tryz.ntmps66
  go_wp2_with fail
  go_ret
  exact⟨rfl,by first|exact Below.refl _ _|go_grown⟩
 ·have HV:=hid (show fA (lT l x) (cu gs mem) f=false by rw[GZ.out,e];rfl)
  rw[e]at p0;rw[HV.out];clear e p1 p2 p3 p4 t0 t1 hal
  go_enter Tryz.func66,Tryz.ntmps66
  go_wp2_with fail
  go_ret
  exact⟨rfl,by first|exact Below.refl _ _|go_grown⟩
 ·have HV:=hid (show fA (lT l x) (cu gs mem) f=lT l x f.name f.val by rw[GZ.out,e];rfl)
  rw[e]at p0;obtain⟨r,hr⟩:∃r,fA (lT l x) (cu gs mem) f=r:=⟨_,rfl⟩;rw[hr]at HV⊢
  have AY:Hid (∀W,Below w.heap.size w W->Calls Tryz.prog 103 #[.slice AS m cS,.string f.name] W fun e w'=>e = .returned (.int .i64 (jA l f.name))/\Below w.heap.size w w'):=hid fun W hb=>by
   refine(tN l f.name AS cS m W HT.out.hm (HT.out.below hb).g).mono ?_;rintro e w' ⟨rfl,hb'⟩;exact⟨rfl,au hb hb'⟩
  have aK:Hid (∀W':World,Below w.heap.size w W'->W'.cell? ⟨tb,0,none⟩=some (.slice AS m cS)/\W'.cell? ⟨fb,fo+1,none⟩=some (.string f.name)):=hid fun W' hb =>
   ⟨(HT.out.t.below hb).cells.1,(hb.cell (p:=⟨fb,fo+1,none⟩) q1).trans p1⟩
  have HI0:=hid (Below.refl w.heap.size w);have HI1:=hid (show Below w.heap.size w w.drew from(Below.refl w.heap.size w).drew);have HI2:=hid (show∀i,Below w.heap.size w (w.drewN i)from fun i=>below_drewN (Below.refl w.heap.size w) i);obtain⟨z,hz⟩:∃z,jA l f.name=z:=⟨_,rfl⟩;have HZ:=hid hz;have HP2:=hid p2;rw[hz]at AY;clear e hr hz p3 p4 t1 p2 hal
  go_enter Tryz.func66,Tryz.ntmps66
  go_upto_region 5 with(fail)
  go_region_held3 (fun W':World=>W'.cell? ⟨tb,0,none⟩=some (.slice AS m cS)/\W'.cell? ⟨fb,fo+1,none⟩=some (.string f.name))
   (first|(with_reducible exact aK.out _ hI)|(go_keep;done))
   ((go_at_call 103;(with_reducible refine(AY.out _ (by first|exact HI0.out|exact HI1.out|exact HI2.out _)).mono ?_);rintro e W9 ⟨rfl,hI⟩))
  all_goals
   have HI:=hid hI;have HTT:=hid (HT.out.below hI);have p2:=(hI.cell (p:=⟨fb,fo+2,none⟩) q1).trans HP2.out;have t1:=HTT.out.t.cells.2.1;have u1:=HTT.out.t.cells.2.2.2.2;have u2:=Nat.lt_of_lt_of_le q1 hI.size;clear hI p0 p1 t0 aK HI0 HI1 HI2
   by_cases hfn:gy l f.name<l.length
   ·have hz1:z=((gy l f.name:Nat):Int):=by rw[<-HZ.out];unfold jA;rw[if_pos hfn]
    obtain⟨i,hi⟩:∃i,gy l f.name=i:=⟨_,rfl⟩;have hr1:r=(fZ l x i==f.val):=by rw[HV.out];unfold lT;rw[decide_eq_true hfn,hi];rfl
    rw[hi]at hz1 hfn;subst hz1;have him:i<m:=by rw[HT.out.hm];exact hfn
    have hv:=HTT.out.v;obtain⟨bv,ov,vy,rfl,_,hvl,HVY,hvc⟩:=hv.get (k:=i) (by rw[JB];exact him);obtain rfl:fZ l x i=vy:=by rw[<-HVY.out,Zd him]
    have HR1:=hid hr1;have him2:(i:Int)<(m:Int):=by omega
    have hi0:(0:Int)<=(i:Int):=by omega
    have hi1:¬(i:Int)<0:=by omega
    obtain⟨vz,hvz⟩:∃vz,fZ l x i=vz:=⟨_,rfl⟩;rw[hvz]at hvc HR1;clear hi hfn hr1 hv hvz HVY;go_upto_region 6 with(fail)
    go_quiet (fail)
    go_wp2_with fail
    go_ret
    exact⟨by rw[HR1.out];rfl,below_drewN HI.out _⟩
   ·have hz1:z = -1:=by rw[<-HZ.out];unfold jA;rw[if_neg hfn]
    have HR1:=hid (show r=false by rw[HV.out];unfold lT;rw[decide_eq_false hfn];rfl);subst hz1;clear hfn;go_upto_region 6 with(fail)
    go_quiet (fail)
    go_wp2_with fail
    go_ret
    exact⟨by rw[HR1.out];rfl,below_drewN HI.out _⟩
 ·have hN1:N=1:=by rw[HN.out];exact AX.out.1 (.inl e)
  obtain⟨b1,o1,Aa,ca,ga,rfl,HXa,hga⟩:=HF.out.args.get (k:=0) (by rw[<-HN.out,hN1];omega);have HGa:=hid (show dP w (· < w.heap.size) b1 (o1) ga Aa ca by simpa using hga);have WB:=hid (show ga∈f.args by rw[<-HXa.out];exact cZ (by rw[<-HN.out,hN1];omega));obtain⟨ra,hra⟩:∃r,fA (lT l x) (cu gs mem) ga=r:=⟨_,rfl⟩;have HRa:=hid hra;have HQa:=hid (show(f.args.map (fA (lT l x) (cu gs mem))).getD 0 false=ra by rw[oH _ _ _ default _ (by rw[<-HN.out,hN1];omega),HXa.out,hra]);clear hga hra
  have HCa:Hid (∀W,Below w.heap.size w W->Calls Tryz.prog 66 #[.pointer (some ⟨tb,0,none⟩),.pointer (some ⟨b1,o1,none⟩)] W fun e w'=>e = .returned (.bool ra)/\Below w.heap.size w w'):=hid fun W hb=>by
   refine(HIH.out ga WB.out _ b1 (o1) Aa ca W (HT.out.below hb) (HGa.out.keep (Keeps.of_below hb fun _ h=>h))).mono ?_;rintro e w' ⟨rfl,hb'⟩;exact⟨by rw[HRa.out],au hb hb'⟩
  have HV:=hid (show fA (lT l x) (cu gs mem) f = !ra by rw[GZ.out,e,<-HQa.out];rfl);rw[e]at p0;subst hN1;rw[HV.out];have HCw:=hid (HCa.out w (Below.refl _ _));clear e p1 p2 p3 t0 t1 hal
  go_enter Tryz.func66,Tryz.ntmps66
  go_wp2_with (go_at_call 66;(with_reducible refine HCw.out.mono ?_);rintro e W9 ⟨rfl,wo⟩;have qN:=hid wo;clear wo)
  go_ret
  exact⟨by cases ra <;> rfl,qN.out⟩
 ·have e0:=hid e
  rw[e]at p0;have HP0:=hid p0;have LG:=hid p4;clear e p1 p2 p3 t0 t1 t4
  go_enter Tryz.func66,Tryz.ntmps66
  go_wp2_with fail
  go_loopw [58] (fun r wr=>∃k:Nat,k<=N/\r = .int .i64 (k:Int)/\Below w.heap.size w wr/\(∀j,j<k->fA (lT l x) (cu gs mem) (f.args.getD j default)=true)) (fun r _=>N-(intOf r).toNat)
  case atStart=>exact⟨0,Nat.zero_le _,rfl,by first|exact Below.refl _ _|go_grown,fun _ h=>absurd h (Nat.not_lt_zero _)⟩
  case round =>
   obtain⟨k,hk,rfl,hbl,hdn⟩:=hrel;have bQ:=hid hbl;have ZC:=hid hdn;clear hbl hdn p0 p4
   by_cases hlt:k<N
   ·have hii:(k:Int)<(N:Int):=by omega
    have hi0:(0:Int)<=(k:Int):=by omega
    have hlf:k<f.args.length:=by rw[<-HN.out];exact hlt
    obtain⟨b1,o1,A',c',g,rfl,HX,hg⟩:=(HF.out.keep (Keeps.of_below bQ.out fun _ h=>h)).args.get hlf;have oq:=hid (show fA (lT l x) (cu gs mem) (f.args.getD k default)=fA (lT l x) (cu gs mem) g by rw[HX.out]);have ZJ:=hid (show g∈f.args by rw[<-HX.out];exact cZ hlf);have HG:=hid hg;have fQ:=hid hlt;obtain⟨rk,hrk⟩:∃r,fA (lT l x) (cu gs mem) g=r:=⟨_,rfl⟩;have WS:=hid hrk
    have aO:Hid (∀W,Below wr.heap.size wr W->Calls Tryz.prog 66 #[.pointer (some ⟨tb,0,none⟩),.pointer (some ⟨b1,o1+k*5,none⟩)] W fun e w'=>e = .returned (.bool rk)/\Below wr.heap.size wr w'):=hid fun W hb=>by
     refine(HIH.out g ZJ.out _ b1 (o1+k*5) A' c' W (HT.out.below (au bQ.out hb)) (HG.out.keep (Keeps.of_below hb fun k hk=>Nat.lt_of_lt_of_le hk bQ.out.size))).mono ?_;rintro e w' ⟨rfl,hb'⟩;exact⟨by rw[WS.out],au hb hb'⟩
    have aK:Hid (∀W':World,Below wr.heap.size wr W'->W'.cell? ⟨fb,fo,none⟩=some (.int .i64 5)/\W'.cell? ⟨fb,fo+4,none⟩=some (.slice (some ⟨b1,o1,none⟩) N c2)):=hid fun W' hb =>
     ⟨((au bQ.out hb).cell (p:=⟨fb,fo,none⟩) q1).trans HP0.out,((au bQ.out hb).cell (p:=⟨fb,fo+4,none⟩) q1).trans LG.out⟩
    have HI0:=hid (Below.refl wr.heap.size wr);have HI1:=hid (show Below wr.heap.size wr wr.drew from(Below.refl wr.heap.size wr).drew);have HI2:=hid (show∀i,Below wr.heap.size wr (wr.drewN i)from fun i=>below_drewN (Below.refl wr.heap.size wr) i);obtain⟨y0,y4⟩:=aK.out wr (Below.refl _ _);have hbl:=Nat.lt_of_lt_of_le q1 bQ.out.size;clear hg hrk hlf hlt hk HX;go_upto_region 14 with(fail)
    go_region_held3 (fun W':World=>W'.cell? ⟨fb,fo,none⟩=some (.int .i64 5)/\W'.cell? ⟨fb,fo+4,none⟩=some (.slice (some ⟨b1,o1,none⟩) N c2))
     (first|(with_reducible exact aK.out _ hI)|(go_keep;done))
     ((go_at_call 66;(with_reducible refine(aO.out _ (by first|exact HI0.out|exact HI1.out|exact HI2.out _)).mono ?_);rintro e W9 ⟨rfl,hI⟩))
    all_goals
     have HI:=hid hI;obtain⟨y0,y4⟩:=aK.out _ hI;have hbl:=Nat.lt_of_lt_of_le (Nat.lt_of_lt_of_le q1 bQ.out.size) hI.size;clear hI;cases rk
     ·have HV:=hid (show fA (lT l x) (cu gs mem) f=false by
      rw[GZ.out,e0.out];show(f.args.map (fA (lT l x) (cu gs mem))).all id=false;rw[List.all_eq_false]
      exact⟨_,List.mem_map.2 ⟨g,ZJ.out,rfl⟩,by rw[WS.out];simp⟩)
      go_wp2_with fail
      go_ret
      exact⟨by rw[HV.out];rfl,au bQ.out HI.out⟩
     ·go_wp2_with fail
      go_roundw
      case rel=>exact⟨k+1,by have:=fQ.out;omega,by go_num,au bQ.out HI.out,fun j hj=>by
       by_cases hjk:j<k
       ·exact ZC.out j hjk
       ·obtain rfl:j=k:=by omega
        exact oq.out.trans WS.out⟩
      case measure=>have:=fQ.out;simp[intOf];omega
   ·have hii:¬(k:Int)<(N:Int):=by omega
    have hkN:k=N:=by omega
    have HV:=hid (show fA (lT l x) (cu gs mem) f=true by
    rw[GZ.out,e0.out];show(f.args.map (fA (lT l x) (cu gs mem))).all id=true;rw[List.all_eq_true];intro y hy;obtain⟨g,hg,rfl⟩:=List.mem_map.1 hy;obtain⟨j,hj,rfl⟩:=List.getElem_of_mem hg;have:=ZC.out j (by rw[hkN,HN.out];exact hj);rw[List.getD_eq_getElem?_getD,List.getElem?_eq_getElem hj,Option.getD_some]at this
    rw[this];rfl)
    have y0:=(bQ.out.cell (p:=⟨fb,fo,none⟩) q1).trans HP0.out;have hbl:=Nat.lt_of_lt_of_le q1 bQ.out.size;clear hlt hkN hk;go_wp2_with fail
    go_ret
    exact⟨by rw[HV.out];rfl,bQ.out⟩
 ·have e0:=hid e
  rw[e]at p0;have HP0:=hid p0;have LG:=hid p4;clear e p1 p2 p3 t0 t1 t4
  go_enter Tryz.func66,Tryz.ntmps66
  go_wp2_with fail
  go_loopw [58] (fun r wr=>∃k:Nat,k<=N/\r = .int .i64 (k:Int)/\Below w.heap.size w wr/\(∀j,j<k->fA (lT l x) (cu gs mem) (f.args.getD j default)=false)) (fun r _=>N-(intOf r).toNat)
  case atStart=>exact⟨0,Nat.zero_le _,rfl,by first|exact Below.refl _ _|go_grown,fun _ h=>absurd h (Nat.not_lt_zero _)⟩
  case round =>
   obtain⟨k,hk,rfl,hbl,hdn⟩:=hrel;have bQ:=hid hbl;have ZC:=hid hdn;clear hbl hdn p0 p4
   by_cases hlt:k<N
   ·have hii:(k:Int)<(N:Int):=by omega
    have hi0:(0:Int)<=(k:Int):=by omega
    have hlf:k<f.args.length:=by rw[<-HN.out];exact hlt
    obtain⟨b1,o1,A',c',g,rfl,HX,hg⟩:=(HF.out.keep (Keeps.of_below bQ.out fun _ h=>h)).args.get hlf;have oq:=hid (show fA (lT l x) (cu gs mem) (f.args.getD k default)=fA (lT l x) (cu gs mem) g by rw[HX.out]);have ZJ:=hid (show g∈f.args by rw[<-HX.out];exact cZ hlf);have HG:=hid hg;have fQ:=hid hlt;obtain⟨rk,hrk⟩:∃r,fA (lT l x) (cu gs mem) g=r:=⟨_,rfl⟩;have WS:=hid hrk
    have aO:Hid (∀W,Below wr.heap.size wr W->Calls Tryz.prog 66 #[.pointer (some ⟨tb,0,none⟩),.pointer (some ⟨b1,o1+k*5,none⟩)] W fun e w'=>e = .returned (.bool rk)/\Below wr.heap.size wr w'):=hid fun W hb=>by
     refine(HIH.out g ZJ.out _ b1 (o1+k*5) A' c' W (HT.out.below (au bQ.out hb)) (HG.out.keep (Keeps.of_below hb fun k hk=>Nat.lt_of_lt_of_le hk bQ.out.size))).mono ?_;rintro e w' ⟨rfl,hb'⟩;exact⟨by rw[WS.out],au hb hb'⟩
    have aK:Hid (∀W':World,Below wr.heap.size wr W'->W'.cell? ⟨fb,fo,none⟩=some (.int .i64 6)/\W'.cell? ⟨fb,fo+4,none⟩=some (.slice (some ⟨b1,o1,none⟩) N c2)):=hid fun W' hb =>
     ⟨((au bQ.out hb).cell (p:=⟨fb,fo,none⟩) q1).trans HP0.out,((au bQ.out hb).cell (p:=⟨fb,fo+4,none⟩) q1).trans LG.out⟩
    have HI0:=hid (Below.refl wr.heap.size wr);have HI1:=hid (show Below wr.heap.size wr wr.drew from(Below.refl wr.heap.size wr).drew);have HI2:=hid (show∀i,Below wr.heap.size wr (wr.drewN i)from fun i=>below_drewN (Below.refl wr.heap.size wr) i);obtain⟨y0,y4⟩:=aK.out wr (Below.refl _ _);have hbl:=Nat.lt_of_lt_of_le q1 bQ.out.size;clear hg hrk hlf hlt hk HX;go_upto_region 14 with(fail)
    go_region_held3 (fun W':World=>W'.cell? ⟨fb,fo,none⟩=some (.int .i64 6)/\W'.cell? ⟨fb,fo+4,none⟩=some (.slice (some ⟨b1,o1,none⟩) N c2))
     (first|(with_reducible exact aK.out _ hI)|(go_keep;done))
     ((go_at_call 66;(with_reducible refine(aO.out _ (by first|exact HI0.out|exact HI1.out|exact HI2.out _)).mono ?_);rintro e W9 ⟨rfl,hI⟩))
    all_goals
     have HI:=hid hI;obtain⟨y0,y4⟩:=aK.out _ hI;have hbl:=Nat.lt_of_lt_of_le (Nat.lt_of_lt_of_le q1 bQ.out.size) hI.size;clear hI;cases rk
     ·go_wp2_with fail
      go_roundw
      case rel=>exact⟨k+1,by have:=fQ.out;omega,by go_num,au bQ.out HI.out,fun j hj=>by
       by_cases hjk:j<k
       ·exact ZC.out j hjk
       ·obtain rfl:j=k:=by omega
        exact oq.out.trans WS.out⟩
      case measure=>have:=fQ.out;simp[intOf];omega
     ·have HV:=hid (show fA (lT l x) (cu gs mem) f=true by
      rw[GZ.out,e0.out];show(f.args.map (fA (lT l x) (cu gs mem))).any id=true;rw[List.any_eq_true]
      exact⟨_,List.mem_map.2 ⟨g,ZJ.out,rfl⟩,by rw[WS.out];rfl⟩)
      go_wp2_with fail
      go_ret
      exact⟨by rw[HV.out];rfl,au bQ.out HI.out⟩
   ·have hii:¬(k:Int)<(N:Int):=by omega
    have hkN:k=N:=by omega
    have HV:=hid (show fA (lT l x) (cu gs mem) f=false by
    rw[GZ.out,e0.out];show(f.args.map (fA (lT l x) (cu gs mem))).any id=false;rw[List.any_eq_false];intro y hy;obtain⟨g,hg,rfl⟩:=List.mem_map.1 hy;obtain⟨j,hj,rfl⟩:=List.getElem_of_mem hg;have:=ZC.out j (by rw[hkN,HN.out];exact hj);rw[List.getD_eq_getElem?_getD,List.getElem?_eq_getElem hj,Option.getD_some]at this
    rw[this];simp)
    have y0:=(bQ.out.cell (p:=⟨fb,fo,none⟩) q1).trans HP0.out;have hbl:=Nat.lt_of_lt_of_le q1 bQ.out.size;clear hlt hkN hk;go_wp2_with fail
    go_ret
    exact⟨by rw[HV.out];rfl,bQ.out⟩
 ·have HV:=hid (show fA (lT l x) (cu gs mem) f=cu gs mem f by rw[GZ.out,e];rfl)
  have HSY:=hid (Gp f fb fo A2 c2 w HT.out HF.out (HPM.out (by rw[e];rfl)));rw[e]at p0;rw[HV.out];clear e p1 p2 p3 p4 t0 t1 hal
  go_enter Tryz.func66,Tryz.ntmps66
  go_wp2_with (go_at_call 104;(with_reducible refine HSY.out.mono ?_);rintro e W9 ⟨rfl,wo⟩;have qN:=hid wo;clear wo)
  go_ret
  exact⟨rfl,qN.out⟩
 ·have hN1:N=2:=by rw[HN.out];exact AX.out.2 (by omega)
  obtain⟨b1,o1,Aa,ca,ga,rfl,HXa,hga⟩:=HF.out.args.get (k:=0) (by rw[<-HN.out,hN1];omega);have HGa:=hid (show dP w (· < w.heap.size) b1 (o1) ga Aa ca by simpa using hga);have WB:=hid (show ga∈f.args by rw[<-HXa.out];exact cZ (by rw[<-HN.out,hN1];omega));obtain⟨ra,hra⟩:∃r,fA (lT l x) (cu gs mem) ga=r:=⟨_,rfl⟩;have HRa:=hid hra;have HQa:=hid (show(f.args.map (fA (lT l x) (cu gs mem))).getD 0 false=ra by rw[oH _ _ _ default _ (by rw[<-HN.out,hN1];omega),HXa.out,hra]);clear hga hra
  have HCa:Hid (∀W,Below w.heap.size w W->Calls Tryz.prog 66 #[.pointer (some ⟨tb,0,none⟩),.pointer (some ⟨b1,o1,none⟩)] W fun e w'=>e = .returned (.bool ra)/\Below w.heap.size w w'):=hid fun W hb=>by
   refine(HIH.out ga WB.out _ b1 (o1) Aa ca W (HT.out.below hb) (HGa.out.keep (Keeps.of_below hb fun _ h=>h))).mono ?_;rintro e w' ⟨rfl,hb'⟩;exact⟨by rw[HRa.out],au hb hb'⟩
  obtain⟨b2,o2,Ab,cb,gb,hAb,HXb,hgb⟩:=HF.out.args.get (k:=1) (by rw[<-HN.out,hN1];omega)
  obtain⟨rfl,rfl⟩:b1=b2/\o1=o2:=by injection hAb with h;injection h with h1 h2;exact⟨h1,h2⟩
  have HGb:=hid (show dP w (· < w.heap.size) b1 (o1+5) gb Ab cb by simpa using hgb);have qcl:=hid (show gb∈f.args by rw[<-HXb.out];exact cZ (by rw[<-HN.out,hN1];omega));obtain⟨rb,hrb⟩:∃r,fA (lT l x) (cu gs mem) gb=r:=⟨_,rfl⟩;have HRb:=hid hrb;have HQb:=hid (show(f.args.map (fA (lT l x) (cu gs mem))).getD 1 false=rb by rw[oH _ _ _ default _ (by rw[<-HN.out,hN1];omega),HXb.out,hrb]);clear hgb hrb
  have HCb:Hid (∀W,Below w.heap.size w W->Calls Tryz.prog 66 #[.pointer (some ⟨tb,0,none⟩),.pointer (some ⟨b1,o1+5,none⟩)] W fun e w'=>e = .returned (.bool rb)/\Below w.heap.size w w'):=hid fun W hb=>by
   refine(HIH.out gb qcl.out _ b1 (o1+5) Ab cb W (HT.out.below hb) (HGb.out.keep (Keeps.of_below hb fun _ h=>h))).mono ?_;rintro e w' ⟨rfl,hb'⟩;exact⟨by rw[HRb.out],au hb hb'⟩
  obtain⟨s,hs⟩:∃s,cu gs mem f=s:=⟨_,rfl⟩;have qcG:=hid hs;have HV:=hid (show fA (lT l x) (cu gs mem) f=(rb || (ra&&s))by rw[GZ.out,e,<-HQa.out,<-HQb.out,hs];rfl)
  have HSY:Hid (∀W,Below w.heap.size w W->Calls Tryz.prog 104 #[.pointer (some ⟨tb,0,none⟩),.pointer (some ⟨fb,fo,none⟩)] W fun e w'=>e = .returned (.bool s)/\Below w.heap.size w w'):=hid fun W hb=>by
   refine(Gp f fb fo _ c2 W (HT.out.below hb) (HF.out.keep (Keeps.of_below hb fun _ h=>h)) (HPM.out (by rw[e];rfl))).mono ?_;rintro e w' ⟨rfl,hb'⟩;exact⟨by rw[qcG.out],au hb hb'⟩
  rw[e]at p0;subst hN1;rw[HV.out];have HB0:=hid (Below.refl w.heap.size w);have LG:=hid p4;have hab:¬(o1=o1+5):=by omega
  clear e p1 p2 p3 t0 t1 hal hs
  cases rb <;> cases ra
  all_goals
   go_enter Tryz.func66,Tryz.ntmps66
   go_wp2_with (first
    | (go_at_call 66;(with_reducible refine(HCb.out _ HB0.out).mono ?_);rintro e W9 ⟨rfl,wo⟩;have qN:=hid wo;have p4:=(wo.cell (p:=⟨fb,fo+4,none⟩) q1).trans LG.out;have q9:=Nat.lt_of_lt_of_le q1 wo.size;clear wo)
    | (go_at_call 66;(with_reducible refine(HCa.out _ qN.out).mono ?_);rintro e W8 ⟨rfl,hb8⟩;have wV:=hid hb8;clear hb8)
    | (go_at_call 104;(with_reducible refine(HSY.out _ (by first|exact wV.out|exact qN.out)).mono ?_);rintro e W7 ⟨rfl,hb7⟩;have vK:=hid hb7;clear hb7))
   go_ret
   exact⟨by first|rfl|(cases s <;> rfl),by first|exact vK.out|exact wV.out|exact qN.out⟩
 ·have hN1:N=2:=by rw[HN.out];exact AX.out.2 (by omega)
  obtain⟨b1,o1,Aa,ca,ga,rfl,HXa,hga⟩:=HF.out.args.get (k:=0) (by rw[<-HN.out,hN1];omega);have HGa:=hid (show dP w (· < w.heap.size) b1 (o1) ga Aa ca by simpa using hga);have WB:=hid (show ga∈f.args by rw[<-HXa.out];exact cZ (by rw[<-HN.out,hN1];omega));obtain⟨ra,hra⟩:∃r,fA (lT l x) (cu gs mem) ga=r:=⟨_,rfl⟩;have HRa:=hid hra;have HQa:=hid (show(f.args.map (fA (lT l x) (cu gs mem))).getD 0 false=ra by rw[oH _ _ _ default _ (by rw[<-HN.out,hN1];omega),HXa.out,hra]);clear hga hra
  have HCa:Hid (∀W,Below w.heap.size w W->Calls Tryz.prog 66 #[.pointer (some ⟨tb,0,none⟩),.pointer (some ⟨b1,o1,none⟩)] W fun e w'=>e = .returned (.bool ra)/\Below w.heap.size w w'):=hid fun W hb=>by
   refine(HIH.out ga WB.out _ b1 (o1) Aa ca W (HT.out.below hb) (HGa.out.keep (Keeps.of_below hb fun _ h=>h))).mono ?_;rintro e w' ⟨rfl,hb'⟩;exact⟨by rw[HRa.out],au hb hb'⟩
  obtain⟨b2,o2,Ab,cb,gb,hAb,HXb,hgb⟩:=HF.out.args.get (k:=1) (by rw[<-HN.out,hN1];omega)
  obtain⟨rfl,rfl⟩:b1=b2/\o1=o2:=by injection hAb with h;injection h with h1 h2;exact⟨h1,h2⟩
  have HGb:=hid (show dP w (· < w.heap.size) b1 (o1+5) gb Ab cb by simpa using hgb);have qcl:=hid (show gb∈f.args by rw[<-HXb.out];exact cZ (by rw[<-HN.out,hN1];omega));obtain⟨rb,hrb⟩:∃r,fA (lT l x) (cu gs mem) gb=r:=⟨_,rfl⟩;have HRb:=hid hrb;have HQb:=hid (show(f.args.map (fA (lT l x) (cu gs mem))).getD 1 false=rb by rw[oH _ _ _ default _ (by rw[<-HN.out,hN1];omega),HXb.out,hrb]);clear hgb hrb
  have HCb:Hid (∀W,Below w.heap.size w W->Calls Tryz.prog 66 #[.pointer (some ⟨tb,0,none⟩),.pointer (some ⟨b1,o1+5,none⟩)] W fun e w'=>e = .returned (.bool rb)/\Below w.heap.size w w'):=hid fun W hb=>by
   refine(HIH.out gb qcl.out _ b1 (o1+5) Ab cb W (HT.out.below hb) (HGb.out.keep (Keeps.of_below hb fun _ h=>h))).mono ?_;rintro e w' ⟨rfl,hb'⟩;exact⟨by rw[HRb.out],au hb hb'⟩
  obtain⟨s,hs⟩:∃s,cu gs mem f=s:=⟨_,rfl⟩;have qcG:=hid hs;have HV:=hid (show fA (lT l x) (cu gs mem) f=(rb&&(ra || s))by rw[GZ.out,e,<-HQa.out,<-HQb.out,hs];rfl)
  have HSY:Hid (∀W,Below w.heap.size w W->Calls Tryz.prog 104 #[.pointer (some ⟨tb,0,none⟩),.pointer (some ⟨fb,fo,none⟩)] W fun e w'=>e = .returned (.bool s)/\Below w.heap.size w w'):=hid fun W hb=>by
   refine(Gp f fb fo _ c2 W (HT.out.below hb) (HF.out.keep (Keeps.of_below hb fun _ h=>h)) (HPM.out (by rw[e];rfl))).mono ?_;rintro e w' ⟨rfl,hb'⟩;exact⟨by rw[qcG.out],au hb hb'⟩
  rw[e]at p0;subst hN1;rw[HV.out];have HB0:=hid (Below.refl w.heap.size w);have LG:=hid p4;have hab:¬(o1=o1+5):=by omega
  clear e p1 p2 p3 t0 t1 hal hs
  cases rb <;> cases ra
  all_goals
   go_enter Tryz.func66,Tryz.ntmps66
   go_wp2_with (first
    | (go_at_call 66;(with_reducible refine(HCb.out _ HB0.out).mono ?_);rintro e W9 ⟨rfl,wo⟩;have qN:=hid wo;have p4:=(wo.cell (p:=⟨fb,fo+4,none⟩) q1).trans LG.out;have q9:=Nat.lt_of_lt_of_le q1 wo.size;clear wo)
    | (go_at_call 66;(with_reducible refine(HCa.out _ qN.out).mono ?_);rintro e W8 ⟨rfl,hb8⟩;have wV:=hid hb8;clear hb8)
    | (go_at_call 104;(with_reducible refine(HSY.out _ (by first|exact wV.out|exact qN.out)).mono ?_);rintro e W7 ⟨rfl,hb7⟩;have vK:=hid hb7;clear hb7))
   go_ret
   exact⟨by first|rfl|(cases s <;> rfl),by first|exact vK.out|exact wV.out|exact qN.out⟩
end Go.Proofs.YtdpbgcmfeajigaaGreatDoor
namespace Go.Proofs.YtdpbgcmfeajigaaGreatDoor
open Go.RowKit Go.Shelf
attribute [local go_sem] ak run_store_func Oper.semAt_some
theorem zG.data {l:List Sg}{AS:Option Addr}{cS m:Nat}{gs:List Fm}{A:Option Addr}{c n mem:Nat}{x:Int}{w w':World}{tb:Nat}{V:Option Addr}{cv:Nat}{E:Dom}(hT:mY w' tb AS m cS V m cv A n c (mem:Int))(hV:o7 w' (fun b=>w.heap.size<=b) V cv (uZ l x m))(hb:Below w.heap.size w w')
  (hm:m=l.length) (hn:n=gs.length) (hG:lV w E AS cS l) (hA:bP w (Cl w) gs A c) (hL:kC gs=true) (hmem:mem<2 ^ n) (h6:m<=6):zF l AS cS m gs A c n mem x tb V cv w' :=
 ⟨hm,hn,hT,hG.any hb,hV.mono fun _ _ _=>trivial,hA.aW hb,hL,hmem,h6⟩
theorem qaX {gs:List Fm}(h:kC gs=true){i:Nat}(hi:i<gs.length){g:Fm}(hg:g∈aZ (gs.getD i default)):g∈gs:=by
 by_cases e:g=gs.getD i default
 ·rw[e];exact cZ hi
 ·have:=((ji h).2 i hi).2.2.2.2 g hg e
  unfold findF at this
  by_cases h2:g∈gs.take i
  ·exact List.mem_of_mem_take h2
  ·rw[if_neg h2]at this;omega
theorem Dv {l:List Sg}{x:Int}(h0:0<=x)(h1:x<bZ l):l.length<=6:=(fM (mg h0 h1).1).2.1
theorem KE {E F:Dom}(l:List Sg)(AS:Option Addr)(cS m:Nat)(gs:List Fm)(A:Option Addr)(c n:Nat)(mem:Nat)(x:Int)(f:Fm)(v:Value)(w:World)(hm:m=l.length)(hG:lV w E AS cS l)(hn:n=gs.length)(h:bP w (Cl w) gs A c)(hL:kC gs=true)(hg:GF w)(hk:GK w)
  (hmem:mem<2 ^ n) (hx0:0<=x) (hx1:x<bZ l) (hF:bI w F v f) (hl:aV f=true) (hp:allB dO f=true) (hin:∀g,g∈aZ f->g∈gs) :
  Calls Tryz.prog 20 #[.slice AS m cS,.slice A n c,.int .i64 (mem:Int),.int .i64 x,v] w fun e w'=>e = .returned (.bool (fA (lT l x) (cu gs mem) f))/\Below w.heap.size w w':=by
 obtain⟨A2,c2,rfl,hA2⟩:=hF;have HG:=hid hG;have HM:=hid hm;have HN:=hid hn;have HA:=hid h;have HL:=hid hL;have yj:=hid hg;have Lp:=hid hk;have HME:=hid hmem;have HX:=hid (And.intro hx0 hx1);have HA2:=hid hA2.old;have tY:=hid hl;have HP:=hid hp;have Si:=hid hin;obtain⟨r,hr⟩:∃r,fA (lT l x) (cu gs mem) f=r:=⟨_,rfl⟩;have HR:=hid hr;rw[hr];clear hG hm hn h hL hg hk hmem hx0 hx1 hA2 hl hp hin hr
 go_enter Tryz.func20,Tryz.ntmps20
 go_upto_region 1 with(fail)
 refine aI fun U hU=>?_;have HB:=hid (show Below w.heap.size w U by rw[hU];go_grown);have HE:=hid (show dF U w.heap.size f A2 c2 by show U.heap[w.heap.size]?=_;rw[hU];exact at_new _ _ _ rfl);clear hU;have Zl:Hid (dP U bC w.heap.size 0 f A2 c2):=hid (dF.vG HE.out trivial ((HA2.out.keep (Keeps.of_below HB.out fun _ h=>h)).mono fun _ _ _=>trivial));have DX:=hid (GH (D:=Cl U) l AS cS m gs A c n mem x U HM.out (HG.out.any HB.out) HN.out (HA.out.aW HB.out) (fun _ h=>h) HL.out (yj.out.below HB.out yj.out.pos) (Lp.out.below HB.out Lp.out.pos) HME.out HX.out.1 HX.out.2)
 go_upto_region 2 with(go_at_call 64;(with_reducible refine DX.out.mono ?_);rintro e W1 ⟨tb,V,cv,rfl,htb,hta,hv,hb1⟩;have HTA:=hid (zG.data hta hv hb1 HM.out HN.out (HG.out.any HB.out) (HA.out.aW HB.out) HL.out HME.out (by rw[HM.out];exact Dv HX.out.1 HX.out.2));have HB1:=hid hb1;clear htb hta hv hb1)
 have aX:=hid (au HB.out HB1.out);have Pz:=hid (dF.vG (D:=bC) (HE.out.below HB1.out) trivial ((HA2.out.keep (Keeps.of_below aX.out fun _ h=>h)).mono fun _ _ _=>trivial));have HHN:=hid (zV (E:=bC) gs A c n f w.heap.size 0 A2 c2 W1 HN.out HTA.out.f (fun _ h=>h) (fun f hf=>nI HL.out hf) Pz.out tY.out Si.out (yj.out.below aX.out yj.out.pos) (Lp.out.below aX.out Lp.out.pos))
 have aK:Hid (∀W':World,Below W1.heap.size W1 W'->W'.cell? ⟨w.heap.size,0,none⟩=some (.int .i64 f.op)/\W'.cell? ⟨w.heap.size,1,none⟩=some (.string f.name)/\W'.cell? ⟨w.heap.size,2,none⟩=some (.int .i64 f.val)/\W'.cell? ⟨w.heap.size,3,none⟩=some (.int .i64 f.bound)/\W'.cell? ⟨w.heap.size,4,none⟩=some (.slice A2 f.args.length c2)/\w.heap.size<W'.heap.size):=hid fun W' hb=>by
  have he:=((HE.out.below HB1.out).below hb).cells;exact⟨he.1,he.2.1,he.2.2.1,he.2.2.2.1,he.2.2.2.2.1,he.2.2.2.2.2⟩
 have CS:Hid (∀W,Below W1.heap.size W1 W->Calls Tryz.prog 12 #[.agg #[.int .i64 f.op,.string f.name,.int .i64 f.val,.int .i64 f.bound,.slice A2 f.args.length c2]] W fun e w'=>e = .returned (.bool true)/\Below W1.heap.size W1 w'):=hid fun W hb=>by
  have hbw:=au aX.out hb;refine(mM f _ W (bI.cells5 (HA2.out.keep (Keeps.of_below hbw fun _ h=>h))) (yj.out.below hbw yj.out.pos) (by have:=(iq tY.out).2.1;omega)).mono ?_;rintro e w' ⟨rfl,hw⟩;rw[HP.out];exact⟨rfl,au hb hw⟩
 obtain⟨p0,p1,p2,p3,p4,p5⟩:=aK.out W1 (Below.refl _ _)
 go_upto_region 4 with(first
  | (go_at_call 65;(with_reducible refine HHN.out.mono ?_);rintro e W2 ⟨rfl,hb2⟩;clear p0 p1 p2 p3 p4 p5;obtain⟨p0,p1,p2,p3,p4,p5⟩:=aK.out W2 hb2;have HB2:=hid hb2;clear hb2)
  | (go_at_call 12;(with_reducible refine(CS.out _ HB2.out).mono ?_);rintro e W3 ⟨rfl,hb3⟩;clear p0 p1 p2 p3 p4 p5;have HB3:=hid hb3;clear hb3))
 have Sl:=hid (KD f tY.out HP.out Si.out bC w.heap.size 0 A2 c2 W3 (HTA.out.below HB3.out) (dF.vG (D:=bC) ((HE.out.below HB1.out).below HB3.out) trivial ((HA2.out.keep (Keeps.of_below (au aX.out HB3.out) fun _ h=>h)).mono fun _ _ _=>trivial)));rw[HR.out]at Sl;go_wp2_with (go_at_call 66;(with_reducible refine Sl.out.mono ?_);rintro e W4 ⟨rfl,hb4⟩;have HB4:=hid hb4;clear hb4)
 go_ret
 exact⟨rfl,au (au aX.out HB3.out) HB4.out⟩
theorem NI (sg:ByteArray->Int->Bool)(gs:List Fm)(mem:Nat):Dz sg gs mem=(List.range gs.length).map fun i=>fA sg (cu gs mem) (kP (gs.getD i default)):=by
 unfold Dz;refine List.ext_getElem (by simp) fun i h1 h2=>?_;have hi:i<gs.length:=by simpa using h1
 simp[List.getD,hi]
theorem Vf {l:List Sg}{AS:Option Addr}{cS m:Nat}{gs:List Fm}{A:Option Addr}{c n mem:Nat}{x:Int}{tb:Nat}{V:Option Addr}{cv:Nat}(sb pb i:Nat)(w:World)(hT:zF l AS cS m gs A c n mem x tb V cv w)(hs:w.cell? ⟨sb,0,none⟩=some (.slice A n c))(hp:w.cell? ⟨pb,0,none⟩=some (.pointer (some ⟨tb,0,none⟩)))(hi:i<n) :
  Calls Tryz.prog 69 #[.int .i64 (i:Int),.pointer (some ⟨sb,0,none⟩),.pointer (some ⟨pb,0,none⟩)] w fun e w'=>e = .returned (.bool (fA (lT l x) (cu gs mem) (kP (gs.getD i default))))/\Below w.heap.size w w':=by
 have hig:i<gs.length:=by rw[<-hT.hn];exact hi
 obtain⟨b1,o1,A',c',g,rfl,HX,hgf⟩:=hT.f.get hig;have GY:=hid ((ji hT.L).2 i hig);have Si:=hid fun y (hy:y∈aZ (gs.getD i default))=>qaX hT.L hig hy;rw[HX.out]at GY Si⊢;have HT:=hid hT;have HF:=hid hgf.old;have hsl:=World.block_lt_of_cell? w _ hs;have hpl:=World.block_lt_of_cell? w _ hp;have hii:(i:Int)<(n:Int):=by omega
 have hi0:(0:Int)<=(i:Int):=by omega
 have HS:=hid hs;have HPP:=hid hp;obtain⟨_,q1,p0,p1,p2,p3,p4,_⟩:=hgf;obtain⟨r,hr⟩:∃r,fA (lT l x) (cu gs mem) (kP g)=r:=⟨_,rfl⟩;have HR:=hid hr;rw[hr];have HQ1:=hid q1;have LG:=hid p4;clear hT hig HX hr p1 p2 p3
 by_cases e:g.op=15
 ·have h1:=(ug (fG GY.out.2.1)).1 (.inr (.inr e))
  obtain⟨b2,o2,A3,c3,a,rfl,HY,ha⟩:=HF.out.args.get (k:=0) (by omega);have HAF:=hid (show dP w (· < w.heap.size) b2 o2 a A3 c3 by simpa using ha);have ham:a∈g.args:=by rw[<-HY.out];exact cZ (by omega)
  have HLK:=hid (show kP g=a by unfold kP;rw[if_pos e];exact HY.out)
  have aO:Hid (∀W,Below w.heap.size w W->Calls Tryz.prog 66 #[.pointer (some ⟨tb,0,none⟩),.pointer (some ⟨b2,o2,none⟩)] W fun e w'=>e = .returned (.bool r)/\Below w.heap.size w w'):=hid fun W hb=>by
   refine(KD a (xP ham GY.out.2.1) (tq GY.out.2.2.1 ham) (fun y hy=>Si.out y (qc ham hy)) (· < w.heap.size) b2 o2 A3 c3 W (HT.out.below hb) (HAF.out.keep (Keeps.of_below hb fun _ h=>h))).mono ?_;rintro e w' ⟨rfl,hb'⟩;exact⟨by rw[<-HR.out,HLK.out],au hb hb'⟩
  rw[h1]at p4 LG;rw[e]at p0
  have aK:Hid (∀W':World,Below w.heap.size w W'->W'.cell? ⟨sb,0,none⟩=some (.slice (some ⟨b1,o1,none⟩) n c)/\W'.cell? ⟨pb,0,none⟩=some (.pointer (some ⟨tb,0,none⟩))/\W'.cell? ⟨b1,o1+i*5+4,none⟩=some (.slice (some ⟨b2,o2,none⟩) 1 c')):=hid fun W' hb =>
   ⟨(hb.cell (p:=⟨sb,0,none⟩) hsl).trans HS.out,(hb.cell (p:=⟨pb,0,none⟩) hpl).trans HPP.out,(hb.cell (p:=⟨b1,o1+i*5+4,none⟩) HQ1.out).trans LG.out⟩
  have HI0:=hid (Below.refl w.heap.size w);have HI1:=hid (show Below w.heap.size w w.drew from(Below.refl w.heap.size w).drew);have HI2:=hid (show∀i,Below w.heap.size w (w.drewN i)from fun i=>below_drewN (Below.refl w.heap.size w) i);clear e h1 ha ham HY
  go_enter Tryz.func69,Tryz.ntmps69
  go_upto_region 2 with(fail)
  go_region_held3 (fun W':World=>W'.cell? ⟨sb,0,none⟩=some (.slice (some ⟨b1,o1,none⟩) n c)/\W'.cell? ⟨pb,0,none⟩=some (.pointer (some ⟨tb,0,none⟩))/\W'.cell? ⟨b1,o1+i*5+4,none⟩=some (.slice (some ⟨b2,o2,none⟩) 1 c'))
   (first|(with_reducible exact aK.out _ hI)|(go_keep;done))
   ((go_at_call 66;(with_reducible refine(aO.out _ (by first|exact HI0.out|exact HI1.out|exact HI2.out _)).mono ?_);rintro e W9 ⟨rfl,hI⟩))
  all_goals
   have HI:=hid hI;clear hI;go_wp2_with fail
   go_ret
   exact⟨rfl,HI.out⟩
 ·have d1:(g.op==15)=false:=bW e
  have HLK:=hid (show kP g=g by unfold kP;rw[if_neg e])
  have aO:Hid (∀W,Below w.heap.size w W->Calls Tryz.prog 66 #[.pointer (some ⟨tb,0,none⟩),.pointer (some ⟨b1,o1+i*5,none⟩)] W fun e w'=>e = .returned (.bool r)/\Below w.heap.size w w'):=hid fun W hb=>by
   refine(KD g GY.out.2.1 GY.out.2.2.1 Si.out (· < w.heap.size) b1 (o1+i*5) A' c' W (HT.out.below hb) (HF.out.keep (Keeps.of_below hb fun _ h=>h))).mono ?_;rintro e w' ⟨rfl,hb'⟩;exact⟨by rw[<-HR.out,HLK.out],au hb hb'⟩
  have aK:Hid (∀W':World,Below w.heap.size w W'->W'.cell? ⟨sb,0,none⟩=some (.slice (some ⟨b1,o1,none⟩) n c)/\W'.cell? ⟨pb,0,none⟩=some (.pointer (some ⟨tb,0,none⟩))):=hid fun W' hb =>
   ⟨(hb.cell (p:=⟨sb,0,none⟩) hsl).trans HS.out,(hb.cell (p:=⟨pb,0,none⟩) hpl).trans HPP.out⟩
  have HI0:=hid (Below.refl w.heap.size w);have HI1:=hid (show Below w.heap.size w w.drew from(Below.refl w.heap.size w).drew);have HI2:=hid (show∀i,Below w.heap.size w (w.drewN i)from fun i=>below_drewN (Below.refl w.heap.size w) i);clear e p4
  go_enter Tryz.func69,Tryz.ntmps69
  go_upto_region 3 with(fail)
  go_region_held3 (fun W':World=>W'.cell? ⟨sb,0,none⟩=some (.slice (some ⟨b1,o1,none⟩) n c)/\W'.cell? ⟨pb,0,none⟩=some (.pointer (some ⟨tb,0,none⟩)))
   (first|(with_reducible exact aK.out _ hI)|(go_keep;done))
   ((go_at_call 66;(with_reducible refine(aO.out _ (by first|exact HI0.out|exact HI1.out|exact HI2.out _)).mono ?_);rintro e W9 ⟨rfl,hI⟩))
  all_goals
   have HI:=hid hI;clear hI;go_wp2_with fail
   go_ret
   exact⟨rfl,HI.out⟩
theorem FV {E:Dom}(l:List Sg)(AS:Option Addr)(cS m:Nat)(gs:List Fm)(A:Option Addr)(c n:Nat)(mem:Nat)(x:Int)(w:World)(hm:m=l.length)(hG:lV w E AS cS l)(hn:n=gs.length)(h:bP w (Cl w) gs A c)(hL:kC gs=true)(hg:GF w)(hk:GK w)
  (hmem:mem<2 ^ n) (hx0:0<=x) (hx1:x<bZ l) :
  Calls Tryz.prog 22 #[.slice AS m cS,.slice A n c,.int .i64 (mem:Int),.int .i64 x] w fun e w'=>e = .returned (.int .i64 (sZ (lT l x) gs mem:Int))/\Below w.heap.size w w':=by
 have hmf:∀(fn:Fn) (first cap:Array Value) (w:World),(Instr.makeFunc fn first cap).run Tryz.prog w = .ok (.func fn first cap) w:=fun _ _ _ _=>rfl;have HG:=hid hG;have HM:=hid hm;have HN:=hid hn;have HA:=hid h;have HL:=hid hL;have yj:=hid hg;have Lp:=hid hk;have HME:=hid hmem;have HX:=hid (And.intro hx0 hx1);have OT:n<=8:=by rw[hn];exact(ji hL).1
 have HN8:=hid OT;have HZ:=hid (show sZ (lT l x) gs mem=jl ((List.range n).map fun i=>fA (lT l x) (cu gs mem) (kP (gs.getD i default)))by unfold sZ;rw[NI,hn]);clear hG hm hn h hL hg hk hmem hx0 hx1 OT
 go_enter Tryz.func22,Tryz.ntmps22
 go_upto_region 1 with(fail)
 refine aI fun U hU=>?_;have HB:=hid (show Below w.heap.size w U by rw[hU];go_grown);have HE:=hid (show U.heap[w.heap.size]?=some (.cells #[.slice A n c] 22 (0,0))by rw[hU];exact at_new _ _ _ rfl);clear hU;have s0:=aj HE.out (i:=0) rfl;have s1:=lt_of_block HE.out;have DX:=hid (GH (D:=Cl U) l AS cS m gs A c n mem x U HM.out (HG.out.any HB.out) HN.out (HA.out.aW HB.out) (fun _ h=>h) HL.out (yj.out.below HB.out yj.out.pos) (Lp.out.below HB.out Lp.out.pos) HME.out HX.out.1 HX.out.2)
 go_upto_region 2 with(go_at_call 64;(with_reducible refine DX.out.mono ?_);rintro e W1 ⟨tb,V,cv,rfl,htb,hta,hv,hb1⟩;have HTA:=hid (zG.data hta hv hb1 HM.out HN.out (HG.out.any HB.out) (HA.out.aW HB.out) HL.out HME.out (by rw[HM.out];exact Dv HX.out.1 HX.out.2));have HB1:=hid hb1;clear htb hta hv hb1 s0 s1)
 refine aI fun W2 hW2=>?_;have hb2:Below W1.heap.size W1 W2:=by rw[hW2];go_grown
 have hp2:W2.heap[W1.heap.size]?=some (.cells #[.pointer (some ⟨tb,0,none⟩)] 92 (0,0)):=by rw[hW2];exact at_new _ _ _ rfl
 have HB2:=hid (au HB1.out hb2);have HTD:=hid (HTA.out.below hb2);have HP2:=hid hp2;have HE2:=hid ((HB2.out.block _ (lt_of_block HE.out)).trans HE.out);have s0:=aj HE2.out (i:=0) rfl;have s1:=lt_of_block HE2.out;clear hW2 hb2 hp2
 have HMO:=hid (Ag n HN8.out 69 #[.pointer (some ⟨w.heap.size,0,none⟩),.pointer (some ⟨W1.heap.size,0,none⟩)] (fun i=>fA (lT l x) (cu gs mem) (kP (gs.getD i default))) W2 (enters_of Tryz.func69 (by kernel_rfl) rfl) fun i W hi hbw =>
  Vf w.heap.size W1.heap.size i W (HTD.out.below hbw) (aj ((hbw.block _ (lt_of_block HE2.out)).trans HE2.out) (i:=0) rfl) (aj ((hbw.block _ (lt_of_block HP2.out)).trans HP2.out) (i:=0) rfl) hi)
 rw[<-HZ.out]at HMO;go_wp2_with (go_at_call 60;(with_reducible refine HMO.out.mono ?_);rintro e W3 ⟨rfl,hb3⟩;have HB3:=hid hb3;clear hb3)
 go_ret
 exact⟨rfl,au (au HB.out HB2.out) HB3.out⟩
end Go.Proofs.YtdpbgcmfeajigaaGreatDoor
