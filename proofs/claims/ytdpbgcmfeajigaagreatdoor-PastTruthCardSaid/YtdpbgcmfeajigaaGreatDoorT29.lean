/-
  Parts of a proof: UQ UR US UT.
-/
import Derived.Test.YtdpbgcmfeajigaaGreatDoorT28
set_option linter.unusedSimpArgs false
set_option linter.unusedVariables false
set_option maxHeartbeats 8000000
set_option maxRecDepth 100000
namespace Go.Proofs.YtdpbgcmfeajigaaGreatDoor
open Go.RowKit Go.Shelf
attribute [local go_sem] ak run_store_func Oper.semAt_some
def nH (w:World)(tb:Nat)(AS:Option Addr)(m cS:Nat)(V:Option Addr)(lv cv:Nat)(A:Option Addr)(n c:Nat)(mem:Int):Prop :=
 w.heap[tb]?=some (.cells #[.slice AS m cS,.slice V lv cv,.slice A n c,.int .i64 mem] 130 (0,0))
theorem nH.cells {w:World}{tb:Nat}{AS:Option Addr}{m cS:Nat}{V:Option Addr}{lv cv:Nat}{A:Option Addr}{n c:Nat}{mem:Int}(h:nH w tb AS m cS V lv cv A n c mem) :
  w.cell? ⟨tb,0,none⟩=some (.slice AS m cS)/\w.cell? ⟨tb,1,none⟩=some (.slice V lv cv)/\w.cell? ⟨tb,2,none⟩=some (.slice A n c)/\w.cell? ⟨tb,3,none⟩=some (.int .i64 mem)/\tb<w.heap.size :=
 ⟨aj h (i:=0) rfl,aj h (i:=1) rfl,aj h (i:=2) rfl,aj h (i:=3) rfl,lt_of_block h⟩
theorem nH.below {w w':World}{tb:Nat}{AS:Option Addr}{m cS:Nat}{V:Option Addr}{lv cv:Nat}{A:Option Addr}{n c:Nat}{mem:Int}(h:nH w tb AS m cS V lv cv A n c mem)(hb:Below w.heap.size w w'):nH w' tb AS m cS V lv cv A n c mem:=(hb.block _ (lt_of_block h)).trans h
def vP (l:List Sg)(x:Int)(k:Nat):List Int:=(List.range k).map (gJ l x)
theorem RZ (l:List Sg)(x:Int)(k:Nat):vP l x (k+1)=vP l x k ++ [gJ l x k]:=by unfold vP;rw[List.range_succ,List.map_append];rfl
theorem JG (l:List Sg)(x:Int)(k:Nat):(vP l x k).length=k:=by unfold vP;simp
theorem Za {l:List Sg}{x:Int}{k i:Nat}(h:i<k):(vP l x k).getD i 0=gJ l x i:=by unfold vP;simp[List.getD,h]
def zS (l:List Sg)(AS:Option Addr)(cS m:Nat)(A:Option Addr)(c n:Nat)(mem:Nat)(x:Int)(w:World)(e:Ending)(w':World):Prop :=
 ∃(tb:Nat) (V:Option Addr) (cv:Nat),e = .returned (.tuple #[.pointer (some ⟨tb,0,none⟩),.bool true])/\w.heap.size<=tb/\nH w' tb AS m cS V m cv A n c (mem:Int)/\qY w' (fun b=>w.heap.size<=b) V cv (vP l x m)/\Below w.heap.size w w'
theorem GY {D E:Dom}(l:List Sg)(AS:Option Addr)(cS m:Nat)(gs:List Fm)(A:Option Addr)(c n:Nat)(mem:Nat)(x:Int)(w:World)(hm:m=l.length)(hG:mG w E AS cS l)(hn:n=gs.length)(h:bV w D gs A c)(hcl:∀b,D b->Cl w b)(hL:kY gs=true)(hg:GF w)(hk:GK w)
  (hmem:mem<2 ^ n) (hx0:0<=x) (hx1:x<dh l) :
  Calls Tryz.prog 64 #[.slice AS m cS,.slice A n c,.int .i64 (mem:Int),.int .i64 x] w (zS l AS cS m A c n mem x w):=by
 have HG:=hid hG;have HM:=hid hm;have HK:=hid hk;have hml:m<=6:=by rw[hm];exact(gU (mP hx0 hx1).1).2.1
 have HIM:=hid (uS gs A c n (mem:Int) w hn h hcl hL hg hk);have HV:=hid (show(decide (0<=(mem:Int))&&decide ((mem:Int)<((2 ^ n:Nat):Int)))=true by rw[decide_eq_true (by omega),decide_eq_true (by omega)];rfl);rw[HV.out]at HIM;have HX0:=hid hx0;have vG:=hid hx1
 have HIMB:Hid (∀W,Below w.heap.size w W->Calls Tryz.prog 76 #[.slice A n c,.int .i64 (mem:Int)] W fun e w'=>e = .returned (.bool true)/\Below W.heap.size W w'):=hid fun W hb=>by
  have:=uS (D:=fun k=>D k/\k<w.heap.size) gs A c n (mem:Int) W hn ((h.mono fun k hk hl=>⟨hk,hl⟩).keep (Keeps.of_below hb fun _ h=>h.2)) (fun b hb'=>(hcl b hb'.1).of_eq (hb.block b hb'.2)) hL (hg.below hb hg.pos) (hk.below hb hk.pos);rw[HV.out]at this;exact this
 obtain⟨z,hz⟩:∃z,z=dh l:=⟨_,rfl⟩;have LK:=hid (DL l AS m cS w hm hG hk);rw[<-hz]at hx1 LK;have HZ:=hid hz;have dx1:¬x<0:=by omega
 have dx2:¬z<=x:=by omega
 have dz1:decide (x<0)=false:=decide_eq_false dx1;have dz2:decide (z<=x)=false:=decide_eq_false dx2;clear hG hm h hcl hL hg hk hmem hz hx0 hx1 hn;obtain⟨i0,hti,hz0,hz1,hz2⟩:=info_parts F5
 go_enter Tryz.func64,Tryz.ntmps64
 go_upto_region 4 with(first
  | (go_at_call 101;(with_reducible refine LK.out.mono ?_);rintro e W1 ⟨rfl,hb1⟩;have HB1:=hid hb1;clear hb1)
  | (go_at_call 76;(refine(HIMB.out _ HB1.out).mono ?_);rintro e W2 ⟨rfl,hb2⟩;have HB2:=hid (au HB1.out hb2);clear hb2))
 refine aF fun U hU=>?_;obtain⟨tb,htb⟩:∃tb,W2.heap.size=tb:=⟨_,rfl⟩;have HT0:=hid (show nH U tb AS m cS none 0 0 A n c (mem:Int)by unfold nH;rw[hU,<-htb];exact at_new _ _ _ rfl);have HB0:=hid (show Below w.heap.size w U by rw[hU];exact HB2.out.alloc HB2.out.size _);have HTB:=hid (show w.heap.size<=tb/\U.heap.size=tb+1 by rw[<-htb];exact⟨HB2.out.size,by rw[hU];simp⟩);rw[htb];clear hU htb;go_wp2_with fail
 go_loopw [33] (fun r wr=>∃(k:Nat) (V:Option Addr) (cv:Nat),k<=m/\r = .int .i64 (k:Int)/\nH wr tb AS m cS V k cv A n c (mem:Int)/\wr.ownsRow (tb+1) 3 1 (.slice V k cv) k ((vP l x k).map (.int .i64))/\Below w.heap.size w wr/\tb+1<=wr.heap.size) (fun r _=>m-(intOf r).toNat)
 case atStart=>exact⟨0,none,0,Nat.zero_le _,rfl,HT0.out,⟨rfl,.inl ⟨rfl,rfl⟩⟩,HB0.out,by have:=HTB.out;omega⟩
 case round =>
  obtain⟨k,V,cv,hkm,rfl,hT,hO,hbl,hsz⟩:=hrel;have HT:=hid hT;have HO:=hid hO;have bJ:=hid hbl;have jE:=hid hsz;clear hT hO hbl hsz
  by_cases hlt:k<m
  ·have hii:(k:Int)<(m:Int):=by omega
   have dY:=hid hlt
   have Xe:Hid (∀W,Below wr.heap.size wr W->Calls Tryz.prog 102 #[.slice AS m cS,.int .i64 x,.int .i64 (k:Int)] W fun e w'=>e = .returned (.int .i64 (gJ l x k))/\Below wr.heap.size wr w'):=hid fun W hb=>by
    refine(JH l AS m cS x k W HM.out (HG.out.any (au bJ.out hb)) (HK.out.below (au bJ.out hb) HK.out.pos) HX0.out vG.out (by rw[<-HM.out];exact dY.out)).mono ?_;rintro e w' ⟨rfl,hb'⟩;exact⟨rfl,au hb hb'⟩
   have OI:=hid (RZ l x k);obtain⟨vz,hvz⟩:∃vz,gJ l x k=vz:=⟨_,rfl⟩;rw[hvz]at Xe OI;obtain⟨t0,t1,t2,t3,t4⟩:=HT.out.cells;clear hlt hvz hkm t0 t2 t3;go_upto_region 7 with(fail)
   refine iL (fun W':World=>W'.cell? ⟨tb,1,none⟩=some (.slice V k cv)) (by kernel_rfl) (by kernel_rfl) (by kernel_rfl) t1 (fun hHeld=>?_);simp only[List.dropLast_cons_cons,List.dropLast_singleton,List.getLast_cons_cons,List.getLast_singleton];refine fH 0 ?_ rfl (by kernel_rfl) (fun _ _ _ h=>h) ?_ (by assumption) ?_
   rotate_left
   ·intro w hSw;(try dsimp only at hSw);go_simp;(try(with_reducible rfl))
   try simp only[Act.put,bf,bn,bC]
   refine fH 1 ?_ rfl (by kernel_rfl) (fun _ _ _ h=>h) ?_ (by assumption) ?_
   rotate_left
   ·intro w hSw;(try dsimp only at hSw);go_simp;(try(with_reducible rfl))
   try simp only[Act.put,bf,bn,bC]
   refine fH 2 ?_ rfl (by kernel_rfl) (fun _ _ _ h=>h) ?_ (by assumption) ?_
   rotate_left
   ·intro w hSw;(try dsimp only at hSw);go_simp;(try(with_reducible rfl))
   try simp only[Act.put,bf,bn,bC]
   refine fH 3 ?_ rfl (by kernel_rfl) (fun _ _ _ h=>h) ?_ (by assumption) ?_
   rotate_left
   ·intro w hSw;(try dsimp only at hSw);go_simp;(try(with_reducible rfl))
   try simp only[Act.put,bf,bn,bC]
   refine fH 4 ?_ rfl (by kernel_rfl) (fun _ _ _ h=>h) ?_ (by assumption) ?_
   rotate_left
   ·intro w hSw;(try dsimp only at hSw);go_simp;(try(with_reducible rfl))
   try simp only[Act.put,bf,bn,bC]
   refine fH 5 ?_ rfl (by kernel_rfl) (fun _ _ _ h=>h) ?_ (by assumption) ?_
   rotate_left
   ·intro w hSw;(try dsimp only at hSw);go_simp;(try(with_reducible rfl))
   try simp only[Act.put,bf,bn,bC]
   refine fH 6 ?_ rfl (by kernel_rfl) (fun _ _ _ h=>h) ?_ (by assumption) ?_
   rotate_left
   ·intro w hSw;(try dsimp only at hSw);go_simp;(try(with_reducible rfl))
   try simp only[Act.put,bf,bn,bC]
   refine fH 7 ?_ rfl (by kernel_rfl) (fun _ _ _ h=>h) ?_ (by assumption) ?_
   rotate_left
   ·intro w hSw;(try dsimp only at hSw);go_simp;(try(with_reducible rfl))
   try simp only[Act.put,bf,bn,bC]
   refine lX 8 (by kernel_rfl) rfl fun K hK=>?_
   go_simp
   (go_at_call 102;(with_reducible refine(Xe.out _ ?_).mono ?_);exact(Below.refl _ _).drew;rintro e W1 ⟨rfl,hb1⟩;have Zt:=hid hb1;clear hb1)
   go_wp2_with fail
   refine hK.out _ _ ?_ (fun hHeld=>?_)
   ·exact(HT.out.below Zt.out).cells.2.1
   clear hK K
   try simp only[Act.put,bf,bn,bC]
   refine lX 9 (by kernel_rfl) rfl fun K hK=>?_
   go_simp
   refine hK.out _ _ ?_ (fun hHeld=>?_)
   ·exact(ak _ _ _ (Nat.lt_of_lt_of_le t4 Zt.out.size)).trans (HT.out.below Zt.out).cells.2.1
   clear hK K
   try simp only[Act.put,bf,bn,bC]
   refine dM (fun wA hwA hHeld=>?_) hHeld;have FT:Below W1.heap.size W1 wA:=by rw[hwA];exact(Below.refl _ _).alloc (Nat.le_refl _) _
   have OY:Rd wA aZ 1 (some ⟨W1.heap.size,0,none⟩) 1 1 [.int .i64 vz]:=by rw[hwA];exact Rd.fresh (D:=aZ) rfl trivial (by simp) (by omega)
   have pX:=hid (au Zt.out FT);have Cb:wA.ownsRow (tb+1) 3 1 (.slice V k cv) k ((vP l x k).map (.int .i64)):=EG HO.out (V:=fun _=>False) (aH.aS pX.out) fun _ _ h=>h;clear hwA FT;refine lX 10 (by kernel_rfl) rfl fun K hK=>?_;refine dA _ (by rfl) _ _ 35 (by rfl) (tb+1) 3 i0 _ 1 8 Tryz.underlying35 hti hz0 hz1 hz2 rfl (by omega) (.slice V k cv) k _ (by rfl) Cb _ (some ⟨W1.heap.size,0,none⟩) 1 1 _ (by rfl) OY (by simp[Value.oneCell']) (by have:=dY.out;omega) (dI (by have:=dY.out;omega)) (by have:=jE.out;have:=pX.out.size;omega) ?_;intro A7 c77 w7 oU qZ wM
   have hne:∀k',(Value.slice V k cv).ownBlock=some k'->tb+1<=k':=fun k' hk=>by
    rcases Cb.2 with⟨h0,_⟩|⟨g',cap,cur,hv',hb,hg',_⟩
    ·rw[h0]at hk;cases hk
    ·rw[hv']at hk
     have e1:g'=k':=Option.some.inj hk;omega
   have Tz:∀b',b'<wA.heap.size->b'<tb+1->w7.heap[b']?=wA.heap[b']?:=fun b' h1 h2=>qZ.block b' h1 (fun e=>by have:=hne _ e.symm;omega);have hT7:nH w7 tb AS m cS V k cv A n c (mem:Int):=(Tz _ (Nat.lt_of_lt_of_le t4 pX.out.size) (by omega)).trans (HT.out.below pX.out);have vX:=hid (show Below w.heap.size w w7 from(au bJ.out pX.out).trans ⟨qZ.os,qZ.tape,qZ.output,qZ.size,fun b hb=>Tz b (Nat.lt_of_lt_of_le hb (au bJ.out pX.out).size) (by have:=HTB.out;omega)⟩);have HS7:=hid (show tb+1<=w7.heap.size by have:=jE.out;have:=pX.out.size;have:=qZ.size;omega);refine hK.out _ _ ?_ (fun hHeld=>?_)
   ·exact hT7.cells.2.1
   clear hK K
   try simp only[Act.put,bf,bn,bC]
   refine fH 11 ?_ rfl (by kernel_rfl) (fun _ _ _ h=>h) ?_ (by assumption) ?_
   rotate_left
   ·intro w hSw;(try dsimp only at hSw);go_simp;(try(with_reducible rfl))
   try simp only[Act.put,bf,bn,bC]
   refine fH 12 ?_ rfl (by kernel_rfl) (fun _ _ _ h=>h) ?_ (by assumption) ?_
   rotate_left
   ·intro w hSw;(try dsimp only at hSw);go_simp;(try(with_reducible rfl))
   try simp only[Act.put,bf,bn,bC]
   have HT7:=hid hT7;have qbm:=hid oU;have f7:=aA hT7 (i:=1);have c7:=hT7.cells.2.1;have l7:=hT7.cells.2.2.2.2;clear hT7 oU qZ Tz wM hHeld Cb OY hne t1 t4;refine wpAnyH_done (by kernel_rfl) ?_ _;unfold jX
   go_simp
   go_wp2_with fail
   go_roundw
   case rel =>
    obtain⟨w8,hw8⟩:∃w8,w8=w7.setCell ⟨tb,1,none⟩ (.slice A7 (k+1) c77):=⟨_,rfl⟩;have FV:aH (fun b=>b=tb) w7 w8:=by rw[hw8];exact(aH.refl (fun b=>b=tb) w7).set ⟨tb,1,none⟩ _ fun _=>rfl
    rw[<-hw8];refine⟨k+1,A7,c77,by have:=dY.out;omega,by go_num,?_,?_,vX.out.trans (FV.below (fun b hb h=>by have:=HTB.out;omega) vX.out.size),by have:=HS7.out;have:=FV.size;omega⟩
    ·unfold nH
     rw[hw8,aB HT7.out];rfl
    ·rw[OI.out,List.map_append]
     refine EG qbm.out FV fun k' hk' hv=>?_;have hv:k'=tb:=hv
     rcases qbm.out.2 with⟨h0,_⟩|⟨g',cap,cur,hv',hb',hg',_⟩
     ·rw[h0]at hk';cases hk'
     ·rw[hv']at hk'
      have e1:g'=k':=Option.some.inj hk';omega
   case measure=>have:=dY.out;simp[intOf];omega
  ·have hii:¬(k:Int)<(m:Int):=by omega
   have hkm2:k=m:=by omega
   subst hkm2;clear hlt;go_wp2_with fail
   refine bodyPost_ret (v := .tuple #[.pointer (some ⟨tb,0,none⟩),.bool true]) (by simp[results,Tryz.results64,go_sem]) rfl ⟨tb,V,cv,rfl,HTB.out.1,HT.out,?_,bJ.out⟩;have h3:=Rd.own HO.out (D:=fun b=>w.heap.size<=b) (by omega) (fun g hg=>by have:=HTB.out;omega);unfold qY;rw[JG];exact h3
end Go.Proofs.YtdpbgcmfeajigaaGreatDoor
namespace Go.Proofs.YtdpbgcmfeajigaaGreatDoor
open Go.RowKit Go.Shelf
attribute [local go_sem] ak run_store_func Oper.semAt_some
structure zQ (l:List Sg) (AS:Option Addr) (cS m:Nat) (gs:List Fm) (A:Option Addr) (c n mem:Nat) (x:Int) (tb:Nat) (V:Option Addr) (cv:Nat) (w:World):Prop where
 hm:m=l.length
 hn:n=gs.length
 t:nH w tb AS m cS V m cv A n c (mem:Int)
 g:mG w aZ AS cS l
 v:qY w aZ V cv (vP l x m)
 f:bV w (Cl w) gs A c
 L:kY gs=true
 mem:mem<2 ^ n
 m6:m<=6
section
variable {l:List Sg}{AS:Option Addr}{cS m:Nat}{gs:List Fm}{A:Option Addr}{c n mem:Nat}{x:Int}{tb:Nat}{V:Option Addr}{cv:Nat}{w w':World}
theorem bV.aW {l:List Fm}{A:Option Addr}{c:Nat}(h:bV w (Cl w) l A c)(hb:Below w.heap.size w w'):bV w' (Cl w') l A c :=
 ((h.mono (E:=fun k=>Cl w k/\k<w.heap.size) fun k hk hl=>⟨hk,hl⟩).keep (Keeps.of_below hb fun _ h=>h.2)).mono fun k hk _=>hk.1.of_eq (hb.block k hk.2)
theorem zQ.below (h:zQ l AS cS m gs A c n mem x tb V cv w)(hb:Below w.heap.size w w'):zQ l AS cS m gs A c n mem x tb V cv w' :=
 ⟨h.hm,h.hn,h.t.below hb,h.g.any hb,(h.v.old.keep (Keeps.of_below hb fun _ h=>h)).mono fun _ _ _=>trivial,h.f.aW hb,h.L,h.mem,h.m6⟩
theorem zQ.n8 (h:zQ l AS cS m gs A c n mem x tb V cv w):n<=8/\mem<256:=by
 have h1:n<=8:=by rw[h.hn];exact(jm h.L).1
 have h2:=KR h1;exact⟨h1,Nat.lt_of_lt_of_le h.mem h2⟩
end
theorem Oi (gs:List Fm)(mem:Nat)(f:Fm):bH gs mem f=decide (mem / 2 ^ jQ f gs % 2=1):=by
 unfold bH;rw[Nat.testBit_eq_decide_div_mod_eq]
theorem Gy {l:List Sg}{AS:Option Addr}{cS m:Nat}{gs:List Fm}{A:Option Addr}{c n mem:Nat}{x:Int}{tb:Nat}{V:Option Addr}{cv:Nat}{F:Dom}(f:Fm)(fb fo:Nat)(A2:Option Addr)(c2:Nat)(w:World)(hT:zQ l AS cS m gs A c n mem x tb V cv w)(hf:dR w F fb fo f A2 c2)(hm:f∈gs) :
  Calls Tryz.prog 104 #[.pointer (some ⟨tb,0,none⟩),.pointer (some ⟨fb,fo,none⟩)] w fun e w'=>e = .returned (.bool (bH gs mem f))/\Below w.heap.size w w':=by
 have HT:=hid hT;have HF:=hid hf.old;obtain⟨t0,t1,t2,t3,t4⟩:=hT.t.cells;have hk:jQ f gs<gs.length:=qm.2 hm;have hfi:findF gs f=(jQ f gs:Int):=by unfold findF;rw[if_pos hm]
 have OX:=hT.n8;have hn:=hT.hn;obtain⟨k,hke⟩:∃k,jQ f gs=k:=⟨_,rfl⟩;rw[hke]at hk hfi;obtain⟨q,hq⟩:∃q,mem / 2 ^ k=q:=⟨_,rfl⟩
 have hqi:(mem:Int) / 2 ^ k=(q:Int):=by
  rw[<-hq];simp
 have UU:q<=mem:=by rw[<-hq];exact Nat.div_le_self _ _
 have hb:=zW (a:=q) (by omega);have HS:=hid (Oi gs mem f);rw[hke,hq]at HS;obtain⟨r,hr⟩:∃r,q % 2=r:=⟨_,rfl⟩;rw[hr]at hb HS
 have HSB:=hid (show((r:Int)==1)=bH gs mem f by
  rw[HS.out]
  by_cases e:r=1
  ·subst e;rfl
  ·rw[decide_eq_false e];exact bW (by omega))
 have h0:(0:Int)<=(k:Int):=by omega
 have h1:(k:Int)<=64:=by omega
 have yK:Hid (∀W,Below w.heap.size w W->Calls Tryz.prog 44 #[.slice A n c,.pointer (some ⟨fb,fo,none⟩)] W fun e w'=>e = .returned (.int .i64 (k:Int))/\Below w.heap.size w w'):=hid fun W hb=>by
  refine(tH gs A c n f fb fo A2 c2 W (HT.out.hn) (HT.out.below hb).f (HF.out.keep (Keeps.of_below hb fun _ h=>h)) (fun g hg=>nV HT.out.L hg) (.inl fun _ h=>h)).mono ?_;rintro e w' ⟨rfl,hb'⟩;exact⟨by rw[hfi],au hb hb'.below⟩
 have aI:Hid (∀W':World,Below w.heap.size w W'->W'.cell? ⟨tb,2,none⟩=some (.slice A n c)/\W'.cell? ⟨tb,3,none⟩=some (.int .i64 (mem:Int))):=hid fun W' hb =>
  ⟨(HT.out.t.below hb).cells.2.2.1,(HT.out.t.below hb).cells.2.2.2.1⟩
 have HI0:=hid (Below.refl w.heap.size w);have HI1:=hid (show Below w.heap.size w w.drew from(Below.refl w.heap.size w).drew);have HI2:=hid (show∀i,Below w.heap.size w (w.drewN i)from fun i=>below_drewN (Below.refl w.heap.size w) i);clear hT hf hm hk hfi OX hn hke hq UU hr t0 t1
 go_enter Tryz.func104,Tryz.ntmps104
 go_upto_region 1 with(fail)
 go_region_held3 (fun W':World=>W'.cell? ⟨tb,2,none⟩=some (.slice A n c)/\W'.cell? ⟨tb,3,none⟩=some (.int .i64 (mem:Int)))
  (first|(with_reducible exact aI.out _ hI)|(go_keep;done))
  ((go_at_call 44;(with_reducible refine(yK.out _ (by first|exact HI0.out|exact HI1.out|exact HI2.out _)).mono ?_);rintro e W9 ⟨rfl,hI⟩))
 all_goals
  have HI:=hid hI;clear hI;go_wp2_with fail
  go_ret
  exact⟨by rw[<-HSB.out];rfl,HI.out⟩
end Go.Proofs.YtdpbgcmfeajigaaGreatDoor
namespace Go.Proofs.YtdpbgcmfeajigaaGreatDoor
open Go.RowKit Go.Shelf
attribute [local go_sem] ak run_store_func Oper.semAt_some
def jV (l:List Sg)(x:Int)(n:ByteArray)(v:Int):Bool:=decide (fQ l n<l.length)&&(gJ l x (fQ l n)==v)
def qeR (l:List Sg)(AS:Option Addr)(cS m:Nat)(gs:List Fm)(A:Option Addr)(c n mem:Nat)(x:Int)(tb:Nat)(V:Option Addr)(cv:Nat)(f:Fm):Prop :=
 ∀(F:Dom) (fb fo:Nat) (A2:Option Addr) (c2:Nat) (w:World),zQ l AS cS m gs A c n mem x tb V cv w->dR w F fb fo f A2 c2 ->
  Calls Tryz.prog 66 #[.pointer (some ⟨tb,0,none⟩),.pointer (some ⟨fb,fo,none⟩)] w fun e w'=>e = .returned (.bool (fD (jV l x) (bH gs mem) f))/\Below w.heap.size w w'
theorem TK {f:Fm}(h:bG f=true)(hp:allB fC f=true):f.op=1\/f.op=2\/f.op=3\/f.op=4\/f.op=5\/f.op=6\/f.op=15\/f.op=16\/f.op=17:=by
 have h1:=mQ (lM (dS.1 (iY h).2.2).1).1;have h2:=(dS.1 (qG.1 hp)).1;unfold fC at h2;have h3:(aJ f.op).future=false:=by simpa using h2
 unfold yB at h1
 have key:∀o:Int,(aJ o).future=false->¬(o=8\/o=9\/o=10):=by
  rintro o ho (rfl|rfl|rfl) <;> exact absurd ho (by decide)
 have:=key _ h3;omega
theorem KJ {l:List Sg}{AS:Option Addr}{cS m:Nat}{gs:List Fm}{A:Option Addr}{c n mem:Nat}{x:Int}{tb:Nat}{V:Option Addr}{cv:Nat}(f:Fm)(hl:bG f=true)(hp:allB fC f=true)(hm:∀g,g∈aX f->g∈gs):qeR l AS cS m gs A c n mem x tb V cv f:=by
 refine Fm.tV (P:=fun f=>bG f=true->allB fC f=true->(∀g,g∈aX f->g∈gs)->qeR l AS cS m gs A c n mem x tb V cv f) ?_ f hl hp hm;clear hl hp hm f;intro f ih hl hp hm F fb fo A2 c2 w hT hf;have HIH:=hid fun g (hg:g∈f.args)=>ih g hg (tY hg hl) (yw hp hg) (fun y hy=>hm y (qE hg hy));have HT:=hid hT;have HF:=hid hf.old;have G8:=hid (TI (jV l x) (bH gs mem) f);have Bj:=hid (nJ (jA hl));have HPM:=hid (fun h:kX f.op=true=>hm f (zA h));have hop:=TK hl hp;have hal:=hf.args.len.1;obtain⟨_,q1,p0,p1,p2,p3,p4,_⟩:=hf;obtain⟨t0,t1,t2,t3,t4⟩:=hT.t.cells;obtain⟨N,hN⟩:∃N,N=f.args.length:=⟨_,rfl⟩;rw[<-hN]at p4 hal;have HN:=hid hN;clear ih hl hp hm hT hN t2 t3
 rcases hop with e|e|e|e|e|e|e|e|e
 ·have HV:=hid (show fD (jV l x) (bH gs mem) f=true by rw[G8.out,e];rfl)
  rw[e]at p0;rw[HV.out];clear e p1 p2 p3 p4 t0 t1 hal
  go_enter Tryz.func66,Tryz.ntmps66
  go_wp2_with fail
  go_ret
  exact⟨rfl,by first|exact Below.refl _ _|go_grown⟩
 ·have HV:=hid (show fD (jV l x) (bH gs mem) f=false by rw[G8.out,e];rfl)
  rw[e]at p0;rw[HV.out];clear e p1 p2 p3 p4 t0 t1 hal
  go_enter Tryz.func66,Tryz.ntmps66
  go_wp2_with fail
  go_ret
  exact⟨rfl,by first|exact Below.refl _ _|go_grown⟩
 ·have HV:=hid (show fD (jV l x) (bH gs mem) f=jV l x f.name f.val by rw[G8.out,e];rfl)
  rw[e]at p0;obtain⟨r,hr⟩:∃r,fD (jV l x) (bH gs mem) f=r:=⟨_,rfl⟩;rw[hr]at HV⊢
  have yK:Hid (∀W,Below w.heap.size w W->Calls Tryz.prog 103 #[.slice AS m cS,.string f.name] W fun e w'=>e = .returned (.int .i64 (iQ l f.name))/\Below w.heap.size w w'):=hid fun W hb=>by
   refine(uo l f.name AS cS m W HT.out.hm (HT.out.below hb).g).mono ?_;rintro e w' ⟨rfl,hb'⟩;exact⟨rfl,au hb hb'⟩
  have aI:Hid (∀W':World,Below w.heap.size w W'->W'.cell? ⟨tb,0,none⟩=some (.slice AS m cS)/\W'.cell? ⟨fb,fo+1,none⟩=some (.string f.name)):=hid fun W' hb =>
   ⟨(HT.out.t.below hb).cells.1,(hb.cell (p:=⟨fb,fo+1,none⟩) q1).trans p1⟩
  have HI0:=hid (Below.refl w.heap.size w);have HI1:=hid (show Below w.heap.size w w.drew from(Below.refl w.heap.size w).drew);have HI2:=hid (show∀i,Below w.heap.size w (w.drewN i)from fun i=>below_drewN (Below.refl w.heap.size w) i);obtain⟨z,hz⟩:∃z,iQ l f.name=z:=⟨_,rfl⟩;have HZ:=hid hz;have HP2:=hid p2;rw[hz]at yK;clear e hr hz p3 p4 t1 p2 hal
  go_enter Tryz.func66,Tryz.ntmps66
  go_upto_region 5 with(fail)
  go_region_held3 (fun W':World=>W'.cell? ⟨tb,0,none⟩=some (.slice AS m cS)/\W'.cell? ⟨fb,fo+1,none⟩=some (.string f.name))
   (first|(with_reducible exact aI.out _ hI)|(go_keep;done))
   ((go_at_call 103;(with_reducible refine(yK.out _ (by first|exact HI0.out|exact HI1.out|exact HI2.out _)).mono ?_);rintro e W9 ⟨rfl,hI⟩))
  all_goals
   have HI:=hid hI;have HTT:=hid (HT.out.below hI);have p2:=(hI.cell (p:=⟨fb,fo+2,none⟩) q1).trans HP2.out;have t1:=HTT.out.t.cells.2.1;have u1:=HTT.out.t.cells.2.2.2.2;have u2:=Nat.lt_of_lt_of_le q1 hI.size;clear hI p0 p1 t0 aI HI0 HI1 HI2
   by_cases hfn:fQ l f.name<l.length
   ·have hz1:z=((fQ l f.name:Nat):Int):=by rw[<-HZ.out];unfold iQ;rw[if_pos hfn]
    obtain⟨i,hi⟩:∃i,fQ l f.name=i:=⟨_,rfl⟩;have hr1:r=(gJ l x i==f.val):=by rw[HV.out];unfold jV;rw[decide_eq_true hfn,hi];rfl
    rw[hi]at hz1 hfn;subst hz1;have him:i<m:=by rw[HT.out.hm];exact hfn
    have hv:=HTT.out.v;obtain⟨bv,ov,vy,rfl,_,hvl,HVY,hvc⟩:=hv.get (k:=i) (by rw[JG];exact him);obtain rfl:gJ l x i=vy:=by rw[<-HVY.out,Za him]
    have HR1:=hid hr1;have him2:(i:Int)<(m:Int):=by omega
    have hi0:(0:Int)<=(i:Int):=by omega
    have hi1:¬(i:Int)<0:=by omega
    obtain⟨vz,hvz⟩:∃vz,gJ l x i=vz:=⟨_,rfl⟩;rw[hvz]at hvc HR1;clear hi hfn hr1 hv hvz HVY;go_upto_region 6 with(fail)
    go_quiet (fail)
    go_wp2_with fail
    go_ret
    exact⟨by rw[HR1.out];rfl,below_drewN HI.out _⟩
   ·have hz1:z = -1:=by rw[<-HZ.out];unfold iQ;rw[if_neg hfn]
    have HR1:=hid (show r=false by rw[HV.out];unfold jV;rw[decide_eq_false hfn];rfl);subst hz1;clear hfn;go_upto_region 6 with(fail)
    go_quiet (fail)
    go_wp2_with fail
    go_ret
    exact⟨by rw[HR1.out];rfl,below_drewN HI.out _⟩
 ·have hN1:N=1:=by rw[HN.out];exact Bj.out.1 (.inl e)
  obtain⟨b1,o1,Aa,ca,ga,rfl,HXa,hga⟩:=HF.out.args.get (k:=0) (by rw[<-HN.out,hN1];omega);have HGa:=hid (show dR w (· < w.heap.size) b1 (o1) ga Aa ca by simpa using hga);have WI:=hid (show ga∈f.args by rw[<-HXa.out];exact cO (by rw[<-HN.out,hN1];omega));obtain⟨ra,hra⟩:∃r,fD (jV l x) (bH gs mem) ga=r:=⟨_,rfl⟩;have HRa:=hid hra;have HQa:=hid (show(f.args.map (fD (jV l x) (bH gs mem))).getD 0 false=ra by rw[oW _ _ _ default _ (by rw[<-HN.out,hN1];omega),HXa.out,hra]);clear hga hra
  have HCa:Hid (∀W,Below w.heap.size w W->Calls Tryz.prog 66 #[.pointer (some ⟨tb,0,none⟩),.pointer (some ⟨b1,o1,none⟩)] W fun e w'=>e = .returned (.bool ra)/\Below w.heap.size w w'):=hid fun W hb=>by
   refine(HIH.out ga WI.out _ b1 (o1) Aa ca W (HT.out.below hb) (HGa.out.keep (Keeps.of_below hb fun _ h=>h))).mono ?_;rintro e w' ⟨rfl,hb'⟩;exact⟨by rw[HRa.out],au hb hb'⟩
  have HV:=hid (show fD (jV l x) (bH gs mem) f = !ra by rw[G8.out,e,<-HQa.out];rfl);rw[e]at p0;subst hN1;rw[HV.out];have HCw:=hid (HCa.out w (Below.refl _ _));clear e p1 p2 p3 t0 t1 hal
  go_enter Tryz.func66,Tryz.ntmps66
  go_wp2_with (go_at_call 66;(with_reducible refine HCw.out.mono ?_);rintro e W9 ⟨rfl,pU⟩;have oD:=hid pU;clear pU)
  go_ret
  exact⟨by cases ra <;> rfl,oD.out⟩
 ·have e0:=hid e
  rw[e]at p0;have HP0:=hid p0;have LU:=hid p4;clear e p1 p2 p3 t0 t1 t4
  go_enter Tryz.func66,Tryz.ntmps66
  go_wp2_with fail
  go_loopw [58] (fun r wr=>∃k:Nat,k<=N/\r = .int .i64 (k:Int)/\Below w.heap.size w wr/\(∀j,j<k->fD (jV l x) (bH gs mem) (f.args.getD j default)=true)) (fun r _=>N-(intOf r).toNat)
  case atStart=>exact⟨0,Nat.zero_le _,rfl,by first|exact Below.refl _ _|go_grown,fun _ h=>absurd h (Nat.not_lt_zero _)⟩
  case round =>
   obtain⟨k,hk,rfl,hbl,hdn⟩:=hrel;have bJ:=hid hbl;have Hg:=hid hdn;clear hbl hdn p0 p4
   by_cases hlt:k<N
   ·have hii:(k:Int)<(N:Int):=by omega
    have hi0:(0:Int)<=(k:Int):=by omega
    have hlf:k<f.args.length:=by rw[<-HN.out];exact hlt
    obtain⟨b1,o1,A',c',g,rfl,HX,hg⟩:=(HF.out.keep (Keeps.of_below bJ.out fun _ h=>h)).args.get hlf;have kQ:=hid (show fD (jV l x) (bH gs mem) (f.args.getD k default)=fD (jV l x) (bH gs mem) g by rw[HX.out]);have PL:=hid (show g∈f.args by rw[<-HX.out];exact cO hlf);have HG:=hid hg;have dY:=hid hlt;obtain⟨rk,hrk⟩:∃r,fD (jV l x) (bH gs mem) g=r:=⟨_,rfl⟩;have WX:=hid hrk
    have aO:Hid (∀W,Below wr.heap.size wr W->Calls Tryz.prog 66 #[.pointer (some ⟨tb,0,none⟩),.pointer (some ⟨b1,o1+k*5,none⟩)] W fun e w'=>e = .returned (.bool rk)/\Below wr.heap.size wr w'):=hid fun W hb=>by
     refine(HIH.out g PL.out _ b1 (o1+k*5) A' c' W (HT.out.below (au bJ.out hb)) (HG.out.keep (Keeps.of_below hb fun k hk=>Nat.lt_of_lt_of_le hk bJ.out.size))).mono ?_;rintro e w' ⟨rfl,hb'⟩;exact⟨by rw[WX.out],au hb hb'⟩
    have aI:Hid (∀W':World,Below wr.heap.size wr W'->W'.cell? ⟨fb,fo,none⟩=some (.int .i64 5)/\W'.cell? ⟨fb,fo+4,none⟩=some (.slice (some ⟨b1,o1,none⟩) N c2)):=hid fun W' hb =>
     ⟨((au bJ.out hb).cell (p:=⟨fb,fo,none⟩) q1).trans HP0.out,((au bJ.out hb).cell (p:=⟨fb,fo+4,none⟩) q1).trans LU.out⟩
    have HI0:=hid (Below.refl wr.heap.size wr);have HI1:=hid (show Below wr.heap.size wr wr.drew from(Below.refl wr.heap.size wr).drew);have HI2:=hid (show∀i,Below wr.heap.size wr (wr.drewN i)from fun i=>below_drewN (Below.refl wr.heap.size wr) i);obtain⟨y0,y4⟩:=aI.out wr (Below.refl _ _);have hbl:=Nat.lt_of_lt_of_le q1 bJ.out.size;clear hg hrk hlf hlt hk HX;go_upto_region 14 with(fail)
    go_region_held3 (fun W':World=>W'.cell? ⟨fb,fo,none⟩=some (.int .i64 5)/\W'.cell? ⟨fb,fo+4,none⟩=some (.slice (some ⟨b1,o1,none⟩) N c2))
     (first|(with_reducible exact aI.out _ hI)|(go_keep;done))
     ((go_at_call 66;(with_reducible refine(aO.out _ (by first|exact HI0.out|exact HI1.out|exact HI2.out _)).mono ?_);rintro e W9 ⟨rfl,hI⟩))
    all_goals
     have HI:=hid hI;obtain⟨y0,y4⟩:=aI.out _ hI;have hbl:=Nat.lt_of_lt_of_le (Nat.lt_of_lt_of_le q1 bJ.out.size) hI.size;clear hI;cases rk
     ·have HV:=hid (show fD (jV l x) (bH gs mem) f=false by
      rw[G8.out,e0.out];show(f.args.map (fD (jV l x) (bH gs mem))).all id=false;rw[List.all_eq_false]
      exact⟨_,List.mem_map.2 ⟨g,PL.out,rfl⟩,by rw[WX.out];simp⟩)
      go_wp2_with fail
      go_ret
      exact⟨by rw[HV.out];rfl,au bJ.out HI.out⟩
     ·go_wp2_with fail
      go_roundw
      case rel=>exact⟨k+1,by have:=dY.out;omega,by go_num,au bJ.out HI.out,fun j hj=>by
       by_cases hjk:j<k
       ·exact Hg.out j hjk
       ·obtain rfl:j=k:=by omega
        exact kQ.out.trans WX.out⟩
      case measure=>have:=dY.out;simp[intOf];omega
   ·have hii:¬(k:Int)<(N:Int):=by omega
    have hkN:k=N:=by omega
    have HV:=hid (show fD (jV l x) (bH gs mem) f=true by
    rw[G8.out,e0.out];show(f.args.map (fD (jV l x) (bH gs mem))).all id=true;rw[List.all_eq_true];intro y hy;obtain⟨g,hg,rfl⟩:=List.mem_map.1 hy;obtain⟨j,hj,rfl⟩:=List.getElem_of_mem hg;have:=Hg.out j (by rw[hkN,HN.out];exact hj);rw[List.getD_eq_getElem?_getD,List.getElem?_eq_getElem hj,Option.getD_some]at this
    rw[this];rfl)
    have y0:=(bJ.out.cell (p:=⟨fb,fo,none⟩) q1).trans HP0.out;have hbl:=Nat.lt_of_lt_of_le q1 bJ.out.size;clear hlt hkN hk;go_wp2_with fail
    go_ret
    exact⟨by rw[HV.out];rfl,bJ.out⟩
 ·have e0:=hid e
  rw[e]at p0;have HP0:=hid p0;have LU:=hid p4;clear e p1 p2 p3 t0 t1 t4
  go_enter Tryz.func66,Tryz.ntmps66
  go_wp2_with fail
  go_loopw [58] (fun r wr=>∃k:Nat,k<=N/\r = .int .i64 (k:Int)/\Below w.heap.size w wr/\(∀j,j<k->fD (jV l x) (bH gs mem) (f.args.getD j default)=false)) (fun r _=>N-(intOf r).toNat)
  case atStart=>exact⟨0,Nat.zero_le _,rfl,by first|exact Below.refl _ _|go_grown,fun _ h=>absurd h (Nat.not_lt_zero _)⟩
  case round =>
   obtain⟨k,hk,rfl,hbl,hdn⟩:=hrel;have bJ:=hid hbl;have Hg:=hid hdn;clear hbl hdn p0 p4
   by_cases hlt:k<N
   ·have hii:(k:Int)<(N:Int):=by omega
    have hi0:(0:Int)<=(k:Int):=by omega
    have hlf:k<f.args.length:=by rw[<-HN.out];exact hlt
    obtain⟨b1,o1,A',c',g,rfl,HX,hg⟩:=(HF.out.keep (Keeps.of_below bJ.out fun _ h=>h)).args.get hlf;have kQ:=hid (show fD (jV l x) (bH gs mem) (f.args.getD k default)=fD (jV l x) (bH gs mem) g by rw[HX.out]);have PL:=hid (show g∈f.args by rw[<-HX.out];exact cO hlf);have HG:=hid hg;have dY:=hid hlt;obtain⟨rk,hrk⟩:∃r,fD (jV l x) (bH gs mem) g=r:=⟨_,rfl⟩;have WX:=hid hrk
    have aO:Hid (∀W,Below wr.heap.size wr W->Calls Tryz.prog 66 #[.pointer (some ⟨tb,0,none⟩),.pointer (some ⟨b1,o1+k*5,none⟩)] W fun e w'=>e = .returned (.bool rk)/\Below wr.heap.size wr w'):=hid fun W hb=>by
     refine(HIH.out g PL.out _ b1 (o1+k*5) A' c' W (HT.out.below (au bJ.out hb)) (HG.out.keep (Keeps.of_below hb fun k hk=>Nat.lt_of_lt_of_le hk bJ.out.size))).mono ?_;rintro e w' ⟨rfl,hb'⟩;exact⟨by rw[WX.out],au hb hb'⟩
    have aI:Hid (∀W':World,Below wr.heap.size wr W'->W'.cell? ⟨fb,fo,none⟩=some (.int .i64 6)/\W'.cell? ⟨fb,fo+4,none⟩=some (.slice (some ⟨b1,o1,none⟩) N c2)):=hid fun W' hb =>
     ⟨((au bJ.out hb).cell (p:=⟨fb,fo,none⟩) q1).trans HP0.out,((au bJ.out hb).cell (p:=⟨fb,fo+4,none⟩) q1).trans LU.out⟩
    have HI0:=hid (Below.refl wr.heap.size wr);have HI1:=hid (show Below wr.heap.size wr wr.drew from(Below.refl wr.heap.size wr).drew);have HI2:=hid (show∀i,Below wr.heap.size wr (wr.drewN i)from fun i=>below_drewN (Below.refl wr.heap.size wr) i);obtain⟨y0,y4⟩:=aI.out wr (Below.refl _ _);have hbl:=Nat.lt_of_lt_of_le q1 bJ.out.size;clear hg hrk hlf hlt hk HX;go_upto_region 14 with(fail)
    go_region_held3 (fun W':World=>W'.cell? ⟨fb,fo,none⟩=some (.int .i64 6)/\W'.cell? ⟨fb,fo+4,none⟩=some (.slice (some ⟨b1,o1,none⟩) N c2))
     (first|(with_reducible exact aI.out _ hI)|(go_keep;done))
     ((go_at_call 66;(with_reducible refine(aO.out _ (by first|exact HI0.out|exact HI1.out|exact HI2.out _)).mono ?_);rintro e W9 ⟨rfl,hI⟩))
    all_goals
     have HI:=hid hI;obtain⟨y0,y4⟩:=aI.out _ hI;have hbl:=Nat.lt_of_lt_of_le (Nat.lt_of_lt_of_le q1 bJ.out.size) hI.size;clear hI;cases rk
     ·go_wp2_with fail
      go_roundw
      case rel=>exact⟨k+1,by have:=dY.out;omega,by go_num,au bJ.out HI.out,fun j hj=>by
       by_cases hjk:j<k
       ·exact Hg.out j hjk
       ·obtain rfl:j=k:=by omega
        exact kQ.out.trans WX.out⟩
      case measure=>have:=dY.out;simp[intOf];omega
     ·have HV:=hid (show fD (jV l x) (bH gs mem) f=true by
      rw[G8.out,e0.out];show(f.args.map (fD (jV l x) (bH gs mem))).any id=true;rw[List.any_eq_true]
      exact⟨_,List.mem_map.2 ⟨g,PL.out,rfl⟩,by rw[WX.out];rfl⟩)
      go_wp2_with fail
      go_ret
      exact⟨by rw[HV.out];rfl,au bJ.out HI.out⟩
   ·have hii:¬(k:Int)<(N:Int):=by omega
    have hkN:k=N:=by omega
    have HV:=hid (show fD (jV l x) (bH gs mem) f=false by
    rw[G8.out,e0.out];show(f.args.map (fD (jV l x) (bH gs mem))).any id=false;rw[List.any_eq_false];intro y hy;obtain⟨g,hg,rfl⟩:=List.mem_map.1 hy;obtain⟨j,hj,rfl⟩:=List.getElem_of_mem hg;have:=Hg.out j (by rw[hkN,HN.out];exact hj);rw[List.getD_eq_getElem?_getD,List.getElem?_eq_getElem hj,Option.getD_some]at this
    rw[this];simp)
    have y0:=(bJ.out.cell (p:=⟨fb,fo,none⟩) q1).trans HP0.out;have hbl:=Nat.lt_of_lt_of_le q1 bJ.out.size;clear hlt hkN hk;go_wp2_with fail
    go_ret
    exact⟨by rw[HV.out];rfl,bJ.out⟩
 ·have HV:=hid (show fD (jV l x) (bH gs mem) f=bH gs mem f by rw[G8.out,e];rfl)
  have HSY:=hid (Gy f fb fo A2 c2 w HT.out HF.out (HPM.out (by rw[e];rfl)));rw[e]at p0;rw[HV.out];clear e p1 p2 p3 p4 t0 t1 hal
  go_enter Tryz.func66,Tryz.ntmps66
  go_wp2_with (go_at_call 104;(with_reducible refine HSY.out.mono ?_);rintro e W9 ⟨rfl,pU⟩;have oD:=hid pU;clear pU)
  go_ret
  exact⟨rfl,oD.out⟩
 ·have hN1:N=2:=by rw[HN.out];exact Bj.out.2 (by omega)
  obtain⟨b1,o1,Aa,ca,ga,rfl,HXa,hga⟩:=HF.out.args.get (k:=0) (by rw[<-HN.out,hN1];omega);have HGa:=hid (show dR w (· < w.heap.size) b1 (o1) ga Aa ca by simpa using hga);have WI:=hid (show ga∈f.args by rw[<-HXa.out];exact cO (by rw[<-HN.out,hN1];omega));obtain⟨ra,hra⟩:∃r,fD (jV l x) (bH gs mem) ga=r:=⟨_,rfl⟩;have HRa:=hid hra;have HQa:=hid (show(f.args.map (fD (jV l x) (bH gs mem))).getD 0 false=ra by rw[oW _ _ _ default _ (by rw[<-HN.out,hN1];omega),HXa.out,hra]);clear hga hra
  have HCa:Hid (∀W,Below w.heap.size w W->Calls Tryz.prog 66 #[.pointer (some ⟨tb,0,none⟩),.pointer (some ⟨b1,o1,none⟩)] W fun e w'=>e = .returned (.bool ra)/\Below w.heap.size w w'):=hid fun W hb=>by
   refine(HIH.out ga WI.out _ b1 (o1) Aa ca W (HT.out.below hb) (HGa.out.keep (Keeps.of_below hb fun _ h=>h))).mono ?_;rintro e w' ⟨rfl,hb'⟩;exact⟨by rw[HRa.out],au hb hb'⟩
  obtain⟨b2,o2,Ab,cb,gb,hAb,HXb,hgb⟩:=HF.out.args.get (k:=1) (by rw[<-HN.out,hN1];omega)
  obtain⟨rfl,rfl⟩:b1=b2/\o1=o2:=by injection hAb with h;injection h with h1 h2;exact⟨h1,h2⟩
  have HGb:=hid (show dR w (· < w.heap.size) b1 (o1+5) gb Ab cb by simpa using hgb);have qca:=hid (show gb∈f.args by rw[<-HXb.out];exact cO (by rw[<-HN.out,hN1];omega));obtain⟨rb,hrb⟩:∃r,fD (jV l x) (bH gs mem) gb=r:=⟨_,rfl⟩;have HRb:=hid hrb;have HQb:=hid (show(f.args.map (fD (jV l x) (bH gs mem))).getD 1 false=rb by rw[oW _ _ _ default _ (by rw[<-HN.out,hN1];omega),HXb.out,hrb]);clear hgb hrb
  have HCb:Hid (∀W,Below w.heap.size w W->Calls Tryz.prog 66 #[.pointer (some ⟨tb,0,none⟩),.pointer (some ⟨b1,o1+5,none⟩)] W fun e w'=>e = .returned (.bool rb)/\Below w.heap.size w w'):=hid fun W hb=>by
   refine(HIH.out gb qca.out _ b1 (o1+5) Ab cb W (HT.out.below hb) (HGb.out.keep (Keeps.of_below hb fun _ h=>h))).mono ?_;rintro e w' ⟨rfl,hb'⟩;exact⟨by rw[HRb.out],au hb hb'⟩
  obtain⟨s,hs⟩:∃s,bH gs mem f=s:=⟨_,rfl⟩;have qcu:=hid hs;have HV:=hid (show fD (jV l x) (bH gs mem) f=(rb || (ra&&s))by rw[G8.out,e,<-HQa.out,<-HQb.out,hs];rfl)
  have HSY:Hid (∀W,Below w.heap.size w W->Calls Tryz.prog 104 #[.pointer (some ⟨tb,0,none⟩),.pointer (some ⟨fb,fo,none⟩)] W fun e w'=>e = .returned (.bool s)/\Below w.heap.size w w'):=hid fun W hb=>by
   refine(Gy f fb fo _ c2 W (HT.out.below hb) (HF.out.keep (Keeps.of_below hb fun _ h=>h)) (HPM.out (by rw[e];rfl))).mono ?_;rintro e w' ⟨rfl,hb'⟩;exact⟨by rw[qcu.out],au hb hb'⟩
  rw[e]at p0;subst hN1;rw[HV.out];have HB0:=hid (Below.refl w.heap.size w);have LU:=hid p4;have hab:¬(o1=o1+5):=by omega
  clear e p1 p2 p3 t0 t1 hal hs
  cases rb <;> cases ra
  all_goals
   go_enter Tryz.func66,Tryz.ntmps66
   go_wp2_with (first
    | (go_at_call 66;(with_reducible refine(HCb.out _ HB0.out).mono ?_);rintro e W9 ⟨rfl,pU⟩;have oD:=hid pU;have p4:=(pU.cell (p:=⟨fb,fo+4,none⟩) q1).trans LU.out;have q9:=Nat.lt_of_lt_of_le q1 pU.size;clear pU)
    | (go_at_call 66;(with_reducible refine(HCa.out _ oD.out).mono ?_);rintro e W8 ⟨rfl,hb8⟩;have xC:=hid hb8;clear hb8)
    | (go_at_call 104;(with_reducible refine(HSY.out _ (by first|exact xC.out|exact oD.out)).mono ?_);rintro e W7 ⟨rfl,hb7⟩;have vX:=hid hb7;clear hb7))
   go_ret
   exact⟨by first|rfl|(cases s <;> rfl),by first|exact vX.out|exact xC.out|exact oD.out⟩
 ·have hN1:N=2:=by rw[HN.out];exact Bj.out.2 (by omega)
  obtain⟨b1,o1,Aa,ca,ga,rfl,HXa,hga⟩:=HF.out.args.get (k:=0) (by rw[<-HN.out,hN1];omega);have HGa:=hid (show dR w (· < w.heap.size) b1 (o1) ga Aa ca by simpa using hga);have WI:=hid (show ga∈f.args by rw[<-HXa.out];exact cO (by rw[<-HN.out,hN1];omega));obtain⟨ra,hra⟩:∃r,fD (jV l x) (bH gs mem) ga=r:=⟨_,rfl⟩;have HRa:=hid hra;have HQa:=hid (show(f.args.map (fD (jV l x) (bH gs mem))).getD 0 false=ra by rw[oW _ _ _ default _ (by rw[<-HN.out,hN1];omega),HXa.out,hra]);clear hga hra
  have HCa:Hid (∀W,Below w.heap.size w W->Calls Tryz.prog 66 #[.pointer (some ⟨tb,0,none⟩),.pointer (some ⟨b1,o1,none⟩)] W fun e w'=>e = .returned (.bool ra)/\Below w.heap.size w w'):=hid fun W hb=>by
   refine(HIH.out ga WI.out _ b1 (o1) Aa ca W (HT.out.below hb) (HGa.out.keep (Keeps.of_below hb fun _ h=>h))).mono ?_;rintro e w' ⟨rfl,hb'⟩;exact⟨by rw[HRa.out],au hb hb'⟩
  obtain⟨b2,o2,Ab,cb,gb,hAb,HXb,hgb⟩:=HF.out.args.get (k:=1) (by rw[<-HN.out,hN1];omega)
  obtain⟨rfl,rfl⟩:b1=b2/\o1=o2:=by injection hAb with h;injection h with h1 h2;exact⟨h1,h2⟩
  have HGb:=hid (show dR w (· < w.heap.size) b1 (o1+5) gb Ab cb by simpa using hgb);have qca:=hid (show gb∈f.args by rw[<-HXb.out];exact cO (by rw[<-HN.out,hN1];omega));obtain⟨rb,hrb⟩:∃r,fD (jV l x) (bH gs mem) gb=r:=⟨_,rfl⟩;have HRb:=hid hrb;have HQb:=hid (show(f.args.map (fD (jV l x) (bH gs mem))).getD 1 false=rb by rw[oW _ _ _ default _ (by rw[<-HN.out,hN1];omega),HXb.out,hrb]);clear hgb hrb
  have HCb:Hid (∀W,Below w.heap.size w W->Calls Tryz.prog 66 #[.pointer (some ⟨tb,0,none⟩),.pointer (some ⟨b1,o1+5,none⟩)] W fun e w'=>e = .returned (.bool rb)/\Below w.heap.size w w'):=hid fun W hb=>by
   refine(HIH.out gb qca.out _ b1 (o1+5) Ab cb W (HT.out.below hb) (HGb.out.keep (Keeps.of_below hb fun _ h=>h))).mono ?_;rintro e w' ⟨rfl,hb'⟩;exact⟨by rw[HRb.out],au hb hb'⟩
  obtain⟨s,hs⟩:∃s,bH gs mem f=s:=⟨_,rfl⟩;have qcu:=hid hs;have HV:=hid (show fD (jV l x) (bH gs mem) f=(rb&&(ra || s))by rw[G8.out,e,<-HQa.out,<-HQb.out,hs];rfl)
  have HSY:Hid (∀W,Below w.heap.size w W->Calls Tryz.prog 104 #[.pointer (some ⟨tb,0,none⟩),.pointer (some ⟨fb,fo,none⟩)] W fun e w'=>e = .returned (.bool s)/\Below w.heap.size w w'):=hid fun W hb=>by
   refine(Gy f fb fo _ c2 W (HT.out.below hb) (HF.out.keep (Keeps.of_below hb fun _ h=>h)) (HPM.out (by rw[e];rfl))).mono ?_;rintro e w' ⟨rfl,hb'⟩;exact⟨by rw[qcu.out],au hb hb'⟩
  rw[e]at p0;subst hN1;rw[HV.out];have HB0:=hid (Below.refl w.heap.size w);have LU:=hid p4;have hab:¬(o1=o1+5):=by omega
  clear e p1 p2 p3 t0 t1 hal hs
  cases rb <;> cases ra
  all_goals
   go_enter Tryz.func66,Tryz.ntmps66
   go_wp2_with (first
    | (go_at_call 66;(with_reducible refine(HCb.out _ HB0.out).mono ?_);rintro e W9 ⟨rfl,pU⟩;have oD:=hid pU;have p4:=(pU.cell (p:=⟨fb,fo+4,none⟩) q1).trans LU.out;have q9:=Nat.lt_of_lt_of_le q1 pU.size;clear pU)
    | (go_at_call 66;(with_reducible refine(HCa.out _ oD.out).mono ?_);rintro e W8 ⟨rfl,hb8⟩;have xC:=hid hb8;clear hb8)
    | (go_at_call 104;(with_reducible refine(HSY.out _ (by first|exact xC.out|exact oD.out)).mono ?_);rintro e W7 ⟨rfl,hb7⟩;have vX:=hid hb7;clear hb7))
   go_ret
   exact⟨by first|rfl|(cases s <;> rfl),by first|exact vX.out|exact xC.out|exact oD.out⟩
end Go.Proofs.YtdpbgcmfeajigaaGreatDoor
namespace Go.Proofs.YtdpbgcmfeajigaaGreatDoor
open Go.RowKit Go.Shelf
attribute [local go_sem] ak run_store_func Oper.semAt_some
theorem zS.data {l:List Sg}{AS:Option Addr}{cS m:Nat}{gs:List Fm}{A:Option Addr}{c n mem:Nat}{x:Int}{w w':World}{tb:Nat}{V:Option Addr}{cv:Nat}{E:Dom}(hT:nH w' tb AS m cS V m cv A n c (mem:Int))(hV:qY w' (fun b=>w.heap.size<=b) V cv (vP l x m))(hb:Below w.heap.size w w')
  (hm:m=l.length) (hn:n=gs.length) (hG:mG w E AS cS l) (hA:bV w (Cl w) gs A c) (hL:kY gs=true) (hmem:mem<2 ^ n) (h6:m<=6):zQ l AS cS m gs A c n mem x tb V cv w' :=
 ⟨hm,hn,hT,hG.any hb,hV.mono fun _ _ _=>trivial,hA.aW hb,hL,hmem,h6⟩
theorem qaK {gs:List Fm}(h:kY gs=true){i:Nat}(hi:i<gs.length){g:Fm}(hg:g∈aX (gs.getD i default)):g∈gs:=by
 by_cases e:g=gs.getD i default
 ·rw[e];exact cO hi
 ·have:=((jm h).2 i hi).2.2.2.2 g hg e
  unfold findF at this
  by_cases h2:g∈gs.take i
  ·exact List.mem_of_mem_take h2
  ·rw[if_neg h2]at this;omega
theorem DN {l:List Sg}{x:Int}(h0:0<=x)(h1:x<dh l):l.length<=6:=(gU (mP h0 h1).1).2.1
theorem KN {E F:Dom}(l:List Sg)(AS:Option Addr)(cS m:Nat)(gs:List Fm)(A:Option Addr)(c n:Nat)(mem:Nat)(x:Int)(f:Fm)(v:Value)(w:World)(hm:m=l.length)(hG:mG w E AS cS l)(hn:n=gs.length)(h:bV w (Cl w) gs A c)(hL:kY gs=true)(hg:GF w)(hk:GK w)
  (hmem:mem<2 ^ n) (hx0:0<=x) (hx1:x<dh l) (hF:bI w F v f) (hl:bG f=true) (hp:allB fC f=true) (hin:∀g,g∈aX f->g∈gs) :
  Calls Tryz.prog 20 #[.slice AS m cS,.slice A n c,.int .i64 (mem:Int),.int .i64 x,v] w fun e w'=>e = .returned (.bool (fD (jV l x) (bH gs mem) f))/\Below w.heap.size w w':=by
 obtain⟨A2,c2,rfl,hA2⟩:=hF;have HG:=hid hG;have HM:=hid hm;have HN:=hid hn;have HA:=hid h;have HL:=hid hL;have wo:=hid hg;have LJ:=hid hk;have HME:=hid hmem;have HX:=hid (And.intro hx0 hx1);have HA2:=hid hA2.old;have sH:=hid hl;have HP:=hid hp;have Sz:=hid hin;obtain⟨r,hr⟩:∃r,fD (jV l x) (bH gs mem) f=r:=⟨_,rfl⟩;have HR:=hid hr;rw[hr];clear hG hm hn h hL hg hk hmem hx0 hx1 hA2 hl hp hin hr
 go_enter Tryz.func20,Tryz.ntmps20
 go_upto_region 1 with(fail)
 refine aF fun U hU=>?_;have HB:=hid (show Below w.heap.size w U by rw[hU];go_grown);have HE:=hid (show dF U w.heap.size f A2 c2 by show U.heap[w.heap.size]?=_;rw[hU];exact at_new _ _ _ rfl);clear hU;have Zi:Hid (dR U aZ w.heap.size 0 f A2 c2):=hid (dF.yH HE.out trivial ((HA2.out.keep (Keeps.of_below HB.out fun _ h=>h)).mono fun _ _ _=>trivial));have Eb:=hid (GY (D:=Cl U) l AS cS m gs A c n mem x U HM.out (HG.out.any HB.out) HN.out (HA.out.aW HB.out) (fun _ h=>h) HL.out (wo.out.below HB.out wo.out.pos) (LJ.out.below HB.out LJ.out.pos) HME.out HX.out.1 HX.out.2)
 go_upto_region 2 with(go_at_call 64;(with_reducible refine Eb.out.mono ?_);rintro e W1 ⟨tb,V,cv,rfl,htb,hta,hv,hb1⟩;have HTA:=hid (zS.data hta hv hb1 HM.out HN.out (HG.out.any HB.out) (HA.out.aW HB.out) HL.out HME.out (by rw[HM.out];exact DN HX.out.1 HX.out.2));have HB1:=hid hb1;clear htb hta hv hb1)
 have aT:=hid (au HB.out HB1.out);have PI:=hid (dF.yH (D:=aZ) (HE.out.below HB1.out) trivial ((HA2.out.keep (Keeps.of_below aT.out fun _ h=>h)).mono fun _ _ _=>trivial));have HHN:=hid (Ag (E:=aZ) gs A c n f w.heap.size 0 A2 c2 W1 HN.out HTA.out.f (fun _ h=>h) (fun f hf=>nV HL.out hf) PI.out sH.out Sz.out (wo.out.below aT.out wo.out.pos) (LJ.out.below aT.out LJ.out.pos))
 have aI:Hid (∀W':World,Below W1.heap.size W1 W'->W'.cell? ⟨w.heap.size,0,none⟩=some (.int .i64 f.op)/\W'.cell? ⟨w.heap.size,1,none⟩=some (.string f.name)/\W'.cell? ⟨w.heap.size,2,none⟩=some (.int .i64 f.val)/\W'.cell? ⟨w.heap.size,3,none⟩=some (.int .i64 f.bound)/\W'.cell? ⟨w.heap.size,4,none⟩=some (.slice A2 f.args.length c2)/\w.heap.size<W'.heap.size):=hid fun W' hb=>by
  have he:=((HE.out.below HB1.out).below hb).cells;exact⟨he.1,he.2.1,he.2.2.1,he.2.2.2.1,he.2.2.2.2.1,he.2.2.2.2.2⟩
 have Di:Hid (∀W,Below W1.heap.size W1 W->Calls Tryz.prog 12 #[.agg #[.int .i64 f.op,.string f.name,.int .i64 f.val,.int .i64 f.bound,.slice A2 f.args.length c2]] W fun e w'=>e = .returned (.bool true)/\Below W1.heap.size W1 w'):=hid fun W hb=>by
  have hbw:=au aT.out hb;refine(o8 f _ W (bI.cells5 (HA2.out.keep (Keeps.of_below hbw fun _ h=>h))) (wo.out.below hbw wo.out.pos) (by have:=(iY sH.out).2.1;omega)).mono ?_;rintro e w' ⟨rfl,hw⟩;rw[HP.out];exact⟨rfl,au hb hw⟩
 obtain⟨p0,p1,p2,p3,p4,p5⟩:=aI.out W1 (Below.refl _ _)
 go_upto_region 4 with(first
  | (go_at_call 65;(with_reducible refine HHN.out.mono ?_);rintro e W2 ⟨rfl,hb2⟩;clear p0 p1 p2 p3 p4 p5;obtain⟨p0,p1,p2,p3,p4,p5⟩:=aI.out W2 hb2;have HB2:=hid hb2;clear hb2)
  | (go_at_call 12;(with_reducible refine(Di.out _ HB2.out).mono ?_);rintro e W3 ⟨rfl,hb3⟩;clear p0 p1 p2 p3 p4 p5;have HB3:=hid hb3;clear hb3))
 have SB:=hid (KJ f sH.out HP.out Sz.out aZ w.heap.size 0 A2 c2 W3 (HTA.out.below HB3.out) (dF.yH (D:=aZ) ((HE.out.below HB1.out).below HB3.out) trivial ((HA2.out.keep (Keeps.of_below (au aT.out HB3.out) fun _ h=>h)).mono fun _ _ _=>trivial)));rw[HR.out]at SB;go_wp2_with (go_at_call 66;(with_reducible refine SB.out.mono ?_);rintro e W4 ⟨rfl,hb4⟩;have HB4:=hid hb4;clear hb4)
 go_ret
 exact⟨rfl,au (au aT.out HB3.out) HB4.out⟩
theorem NH (sg:ByteArray->Int->Bool)(gs:List Fm)(mem:Nat):Jj sg gs mem=(List.range gs.length).map fun i=>fD sg (bH gs mem) (jR (gs.getD i default)):=by
 unfold Jj;refine List.ext_getElem (by simp) fun i h1 h2=>?_;have hi:i<gs.length:=by simpa using h1
 simp[List.getD,hi]
theorem Vh {l:List Sg}{AS:Option Addr}{cS m:Nat}{gs:List Fm}{A:Option Addr}{c n mem:Nat}{x:Int}{tb:Nat}{V:Option Addr}{cv:Nat}(sb pb i:Nat)(w:World)(hT:zQ l AS cS m gs A c n mem x tb V cv w)(hs:w.cell? ⟨sb,0,none⟩=some (.slice A n c))(hp:w.cell? ⟨pb,0,none⟩=some (.pointer (some ⟨tb,0,none⟩)))(hi:i<n) :
  Calls Tryz.prog 69 #[.int .i64 (i:Int),.pointer (some ⟨sb,0,none⟩),.pointer (some ⟨pb,0,none⟩)] w fun e w'=>e = .returned (.bool (fD (jV l x) (bH gs mem) (jR (gs.getD i default))))/\Below w.heap.size w w':=by
 have hig:i<gs.length:=by rw[<-hT.hn];exact hi
 obtain⟨b1,o1,A',c',g,rfl,HX,hgf⟩:=hT.f.get hig;have G7:=hid ((jm hT.L).2 i hig);have Sz:=hid fun y (hy:y∈aX (gs.getD i default))=>qaK hT.L hig hy;rw[HX.out]at G7 Sz⊢;have HT:=hid hT;have HF:=hid hgf.old;have hsl:=World.block_lt_of_cell? w _ hs;have hpl:=World.block_lt_of_cell? w _ hp;have hii:(i:Int)<(n:Int):=by omega
 have hi0:(0:Int)<=(i:Int):=by omega
 have HS:=hid hs;have HPP:=hid hp;obtain⟨_,q1,p0,p1,p2,p3,p4,_⟩:=hgf;obtain⟨r,hr⟩:∃r,fD (jV l x) (bH gs mem) (jR g)=r:=⟨_,rfl⟩;have HR:=hid hr;rw[hr];have HQ1:=hid q1;have LU:=hid p4;clear hT hig HX hr p1 p2 p3
 by_cases e:g.op=15
 ·have h1:=(nJ (jA G7.out.2.1)).1 (.inr (.inr e))
  obtain⟨b2,o2,A3,c3,a,rfl,HY,ha⟩:=HF.out.args.get (k:=0) (by omega);have HAF:=hid (show dR w (· < w.heap.size) b2 o2 a A3 c3 by simpa using ha);have ham:a∈g.args:=by rw[<-HY.out];exact cO (by omega)
  have HLK:=hid (show jR g=a by unfold jR;rw[if_pos e];exact HY.out)
  have aO:Hid (∀W,Below w.heap.size w W->Calls Tryz.prog 66 #[.pointer (some ⟨tb,0,none⟩),.pointer (some ⟨b2,o2,none⟩)] W fun e w'=>e = .returned (.bool r)/\Below w.heap.size w w'):=hid fun W hb=>by
   refine(KJ a (tY ham G7.out.2.1) (yw G7.out.2.2.1 ham) (fun y hy=>Sz.out y (qE ham hy)) (· < w.heap.size) b2 o2 A3 c3 W (HT.out.below hb) (HAF.out.keep (Keeps.of_below hb fun _ h=>h))).mono ?_;rintro e w' ⟨rfl,hb'⟩;exact⟨by rw[<-HR.out,HLK.out],au hb hb'⟩
  rw[h1]at p4 LU;rw[e]at p0
  have aI:Hid (∀W':World,Below w.heap.size w W'->W'.cell? ⟨sb,0,none⟩=some (.slice (some ⟨b1,o1,none⟩) n c)/\W'.cell? ⟨pb,0,none⟩=some (.pointer (some ⟨tb,0,none⟩))/\W'.cell? ⟨b1,o1+i*5+4,none⟩=some (.slice (some ⟨b2,o2,none⟩) 1 c')):=hid fun W' hb =>
   ⟨(hb.cell (p:=⟨sb,0,none⟩) hsl).trans HS.out,(hb.cell (p:=⟨pb,0,none⟩) hpl).trans HPP.out,(hb.cell (p:=⟨b1,o1+i*5+4,none⟩) HQ1.out).trans LU.out⟩
  have HI0:=hid (Below.refl w.heap.size w);have HI1:=hid (show Below w.heap.size w w.drew from(Below.refl w.heap.size w).drew);have HI2:=hid (show∀i,Below w.heap.size w (w.drewN i)from fun i=>below_drewN (Below.refl w.heap.size w) i);clear e h1 ha ham HY
  go_enter Tryz.func69,Tryz.ntmps69
  go_upto_region 2 with(fail)
  go_region_held3 (fun W':World=>W'.cell? ⟨sb,0,none⟩=some (.slice (some ⟨b1,o1,none⟩) n c)/\W'.cell? ⟨pb,0,none⟩=some (.pointer (some ⟨tb,0,none⟩))/\W'.cell? ⟨b1,o1+i*5+4,none⟩=some (.slice (some ⟨b2,o2,none⟩) 1 c'))
   (first|(with_reducible exact aI.out _ hI)|(go_keep;done))
   ((go_at_call 66;(with_reducible refine(aO.out _ (by first|exact HI0.out|exact HI1.out|exact HI2.out _)).mono ?_);rintro e W9 ⟨rfl,hI⟩))
  all_goals
   have HI:=hid hI;clear hI;go_wp2_with fail
   go_ret
   exact⟨rfl,HI.out⟩
 ·have d1:(g.op==15)=false:=bW e
  have HLK:=hid (show jR g=g by unfold jR;rw[if_neg e])
  have aO:Hid (∀W,Below w.heap.size w W->Calls Tryz.prog 66 #[.pointer (some ⟨tb,0,none⟩),.pointer (some ⟨b1,o1+i*5,none⟩)] W fun e w'=>e = .returned (.bool r)/\Below w.heap.size w w'):=hid fun W hb=>by
   refine(KJ g G7.out.2.1 G7.out.2.2.1 Sz.out (· < w.heap.size) b1 (o1+i*5) A' c' W (HT.out.below hb) (HF.out.keep (Keeps.of_below hb fun _ h=>h))).mono ?_;rintro e w' ⟨rfl,hb'⟩;exact⟨by rw[<-HR.out,HLK.out],au hb hb'⟩
  have aI:Hid (∀W':World,Below w.heap.size w W'->W'.cell? ⟨sb,0,none⟩=some (.slice (some ⟨b1,o1,none⟩) n c)/\W'.cell? ⟨pb,0,none⟩=some (.pointer (some ⟨tb,0,none⟩))):=hid fun W' hb =>
   ⟨(hb.cell (p:=⟨sb,0,none⟩) hsl).trans HS.out,(hb.cell (p:=⟨pb,0,none⟩) hpl).trans HPP.out⟩
  have HI0:=hid (Below.refl w.heap.size w);have HI1:=hid (show Below w.heap.size w w.drew from(Below.refl w.heap.size w).drew);have HI2:=hid (show∀i,Below w.heap.size w (w.drewN i)from fun i=>below_drewN (Below.refl w.heap.size w) i);clear e p4
  go_enter Tryz.func69,Tryz.ntmps69
  go_upto_region 3 with(fail)
  go_region_held3 (fun W':World=>W'.cell? ⟨sb,0,none⟩=some (.slice (some ⟨b1,o1,none⟩) n c)/\W'.cell? ⟨pb,0,none⟩=some (.pointer (some ⟨tb,0,none⟩)))
   (first|(with_reducible exact aI.out _ hI)|(go_keep;done))
   ((go_at_call 66;(with_reducible refine(aO.out _ (by first|exact HI0.out|exact HI1.out|exact HI2.out _)).mono ?_);rintro e W9 ⟨rfl,hI⟩))
  all_goals
   have HI:=hid hI;clear hI;go_wp2_with fail
   go_ret
   exact⟨rfl,HI.out⟩
theorem NI {E:Dom}(l:List Sg)(AS:Option Addr)(cS m:Nat)(gs:List Fm)(A:Option Addr)(c n:Nat)(mem:Nat)(x:Int)(w:World)(hm:m=l.length)(hG:mG w E AS cS l)(hn:n=gs.length)(h:bV w (Cl w) gs A c)(hL:kY gs=true)(hg:GF w)(hk:GK w)
  (hmem:mem<2 ^ n) (hx0:0<=x) (hx1:x<dh l) :
  Calls Tryz.prog 22 #[.slice AS m cS,.slice A n c,.int .i64 (mem:Int),.int .i64 x] w fun e w'=>e = .returned (.int .i64 (rG (jV l x) gs mem:Int))/\Below w.heap.size w w':=by
 have hmf:∀(fn:Fn) (first cap:Array Value) (w:World),(Instr.makeFunc fn first cap).run Tryz.prog w = .ok (.func fn first cap) w:=fun _ _ _ _=>rfl;have HG:=hid hG;have HM:=hid hm;have HN:=hid hn;have HA:=hid h;have HL:=hid hL;have wo:=hid hg;have LJ:=hid hk;have HME:=hid hmem;have HX:=hid (And.intro hx0 hx1);have OX:n<=8:=by rw[hn];exact(jm hL).1
 have HN8:=hid OX;have HZ:=hid (show rG (jV l x) gs mem=jo ((List.range n).map fun i=>fD (jV l x) (bH gs mem) (jR (gs.getD i default)))by unfold rG;rw[NH,hn]);clear hG hm hn h hL hg hk hmem hx0 hx1 OX
 go_enter Tryz.func22,Tryz.ntmps22
 go_upto_region 1 with(fail)
 refine aF fun U hU=>?_;have HB:=hid (show Below w.heap.size w U by rw[hU];go_grown);have HE:=hid (show U.heap[w.heap.size]?=some (.cells #[.slice A n c] 22 (0,0))by rw[hU];exact at_new _ _ _ rfl);clear hU;have s0:=aj HE.out (i:=0) rfl;have s1:=lt_of_block HE.out;have Eb:=hid (GY (D:=Cl U) l AS cS m gs A c n mem x U HM.out (HG.out.any HB.out) HN.out (HA.out.aW HB.out) (fun _ h=>h) HL.out (wo.out.below HB.out wo.out.pos) (LJ.out.below HB.out LJ.out.pos) HME.out HX.out.1 HX.out.2)
 go_upto_region 2 with(go_at_call 64;(with_reducible refine Eb.out.mono ?_);rintro e W1 ⟨tb,V,cv,rfl,htb,hta,hv,hb1⟩;have HTA:=hid (zS.data hta hv hb1 HM.out HN.out (HG.out.any HB.out) (HA.out.aW HB.out) HL.out HME.out (by rw[HM.out];exact DN HX.out.1 HX.out.2));have HB1:=hid hb1;clear htb hta hv hb1 s0 s1)
 refine aF fun W2 hW2=>?_;have hb2:Below W1.heap.size W1 W2:=by rw[hW2];go_grown
 have hp2:W2.heap[W1.heap.size]?=some (.cells #[.pointer (some ⟨tb,0,none⟩)] 92 (0,0)):=by rw[hW2];exact at_new _ _ _ rfl
 have HB2:=hid (au HB1.out hb2);have HTD:=hid (HTA.out.below hb2);have HP2:=hid hp2;have HE2:=hid ((HB2.out.block _ (lt_of_block HE.out)).trans HE.out);have s0:=aj HE2.out (i:=0) rfl;have s1:=lt_of_block HE2.out;clear hW2 hb2 hp2
 have HMO:=hid (AO n HN8.out 69 #[.pointer (some ⟨w.heap.size,0,none⟩),.pointer (some ⟨W1.heap.size,0,none⟩)] (fun i=>fD (jV l x) (bH gs mem) (jR (gs.getD i default))) W2 (enters_of Tryz.func69 (by kernel_rfl) rfl) fun i W hi hbw =>
  Vh w.heap.size W1.heap.size i W (HTD.out.below hbw) (aj ((hbw.block _ (lt_of_block HE2.out)).trans HE2.out) (i:=0) rfl) (aj ((hbw.block _ (lt_of_block HP2.out)).trans HP2.out) (i:=0) rfl) hi)
 rw[<-HZ.out]at HMO;go_wp2_with (go_at_call 60;(with_reducible refine HMO.out.mono ?_);rintro e W3 ⟨rfl,hb3⟩;have HB3:=hid hb3;clear hb3)
 go_ret
 exact⟨rfl,au (au HB.out HB2.out) HB3.out⟩
end Go.Proofs.YtdpbgcmfeajigaaGreatDoor
