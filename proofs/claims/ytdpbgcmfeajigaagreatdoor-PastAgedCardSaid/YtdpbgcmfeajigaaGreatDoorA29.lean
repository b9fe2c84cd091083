/-
  Parts of a proof: UQ UR US UT.
-/
import Derived.Test.YtdpbgcmfeajigaaGreatDoorA28
set_option linter.unusedSimpArgs false
set_option linter.unusedVariables false
set_option maxHeartbeats 8000000
set_option maxRecDepth 100000
namespace Go.Proofs.YtdpbgcmfeajigaaGreatDoor
open Go.RowKit Go.Shelf
attribute [local go_sem] ak run_store_func Oper.semAt_some
def nT (w:World)(tb:Nat)(AS:Option Addr)(m cS:Nat)(V:Option Addr)(lv cv:Nat)(A:Option Addr)(n c:Nat)(mem:Int):Prop :=
 w.heap[tb]?=some (.cells #[.slice AS m cS,.slice V lv cv,.slice A n c,.int .i64 mem] 130 (0,0))
theorem nT.cells {w:World}{tb:Nat}{AS:Option Addr}{m cS:Nat}{V:Option Addr}{lv cv:Nat}{A:Option Addr}{n c:Nat}{mem:Int}(h:nT w tb AS m cS V lv cv A n c mem) :
  w.cell? ⟨tb,0,none⟩=some (.slice AS m cS)/\w.cell? ⟨tb,1,none⟩=some (.slice V lv cv)/\w.cell? ⟨tb,2,none⟩=some (.slice A n c)/\w.cell? ⟨tb,3,none⟩=some (.int .i64 mem)/\tb<w.heap.size :=
 ⟨aj h (i:=0) rfl,aj h (i:=1) rfl,aj h (i:=2) rfl,aj h (i:=3) rfl,lt_of_block h⟩
theorem nT.below {w w':World}{tb:Nat}{AS:Option Addr}{m cS:Nat}{V:Option Addr}{lv cv:Nat}{A:Option Addr}{n c:Nat}{mem:Int}(h:nT w tb AS m cS V lv cv A n c mem)(hb:Below w.heap.size w w'):nT w' tb AS m cS V lv cv A n c mem:=(hb.block _ (lt_of_block h)).trans h
def vZ (l:List Sg)(x:Int)(k:Nat):List Int:=(List.range k).map (gy l x)
theorem Tz (l:List Sg)(x:Int)(k:Nat):vZ l x (k+1)=vZ l x k ++ [gy l x k]:=by unfold vZ;rw[List.range_succ,List.map_append];rfl
theorem JM (l:List Sg)(x:Int)(k:Nat):(vZ l x k).length=k:=by unfold vZ;simp
theorem qad {l:List Sg}{x:Int}{k i:Nat}(h:i<k):(vZ l x k).getD i 0=gy l x i:=by unfold vZ;simp[List.getD,h]
def Ac (l:List Sg)(AS:Option Addr)(cS m:Nat)(A:Option Addr)(c n:Nat)(mem:Nat)(x:Int)(w:World)(e:Ending)(w':World):Prop :=
 ∃(tb:Nat) (V:Option Addr) (cv:Nat),e = .returned (.tuple #[.pointer (some ⟨tb,0,none⟩),.bool true])/\w.heap.size<=tb/\nT w' tb AS m cS V m cv A n c (mem:Int)/\jm w' (λ b=>w.heap.size<=b) V cv (vZ l x m)/\Below w.heap.size w w'
theorem G5 {D E:Dom}(l:List Sg)(AS:Option Addr)(cS m:Nat)(gs:List Fm)(A:Option Addr)(c n:Nat)(mem:Nat)(x:Int)(w:World)(hm:m=l.length)(hG:ng w E AS cS l)(hn:n=gs.length)(h:bZ w D gs A c)(hcl:∀b,D b->Cl w b)(hL:lH gs=true)(hg:GF w)(hk:GK w)
  (hmem:mem<2 ^ n) (hx0:0<=x) (hx1:x<dh l) :
  Calls Tryz.prog 64 #[.slice AS m cS,.slice A n c,.int .i64 (mem:Int),.int .i64 x] w (Ac l AS cS m A c n mem x w):=by
 have HG:=hid hG;have HM:=hid hm;have HK:=hid hk;have hml:m<=6:=by rw[hm];exact(gI (nI hx0 hx1).1).2.1
 have HIM:=hid (uZ gs A c n (mem:Int) w hn h hcl hL hg hk);have HV:=hid (show(decide (0<=(mem:Int))&&decide ((mem:Int)<((2 ^ n:Nat):Int)))=true by rw[decide_eq_true (by omega),decide_eq_true (by omega)];rfl);rw[HV.out]at HIM;have HX0:=hid hx0;have uK:=hid hx1
 have HIMB:Hid (∀W,Below w.heap.size w W->Calls Tryz.prog 76 #[.slice A n c,.int .i64 (mem:Int)] W λ e w'=>e = .returned (.bool true)/\Below W.heap.size W w'):=hid λ W hb=>by
  have:=uZ (D := λ k=>D k/\k<w.heap.size) gs A c n (mem:Int) W hn ((h.mono λ k hk hl=>⟨hk,hl⟩).keep (Keeps.of_below hb λ _ h=>h.2)) (λ b hb'=>(hcl b hb'.1).of_eq (hb.block b hb'.2)) hL (hg.below hb hg.pos) (hk.below hb hk.pos);rw[HV.out]at this;exact this
 obtain⟨z,hz⟩:∃z,z=dh l:=⟨_,rfl⟩;have MC:=hid (DT l AS m cS w hm hG hk);rw[<-hz]at hx1 MC;have HZ:=hid hz;have dx1:¬x<0:=by omega
 have dx2:¬z<=x:=by omega
 have dz1:decide (x<0)=false:=decide_eq_false dx1;have dz2:decide (z<=x)=false:=decide_eq_false dx2;clear hG hm h hcl hL hg hk hmem hz hx0 hx1 hn;obtain⟨i0,hti,hz0,hz1,hz2⟩:=info_parts qR
 go_enter Tryz.func64,Tryz.ntmps64
 go_upto_region 4 with(first
  | (go_at_call 101;(with_reducible refine MC.out.mono ?_);rintro e W1 ⟨rfl,hb1⟩;have HB1:=hid hb1;clear hb1)
  | (go_at_call 76;(refine(HIMB.out _ HB1.out).mono ?_);rintro e W2 ⟨rfl,hb2⟩;have HB2:=hid (au HB1.out hb2);clear hb2))
 refine aC λ U hU=>?_;obtain⟨tb,htb⟩:∃tb,W2.heap.size=tb:=⟨_,rfl⟩;have HT0:=hid (show nT U tb AS m cS none 0 0 A n c (mem:Int)by unfold nT;rw[hU,<-htb];exact at_new _ _ _ rfl);have HB0:=hid (show Below w.heap.size w U by rw[hU];exact HB2.out.alloc HB2.out.size _);have HTB:=hid (show w.heap.size<=tb/\U.heap.size=tb+1 by rw[<-htb];exact⟨HB2.out.size,by rw[hU];simp⟩);rw[htb];clear hU htb;go_wp2_with fail
 go_loopw [33] (λ r wr=>∃(k:Nat) (V:Option Addr) (cv:Nat),k<=m/\r = .int .i64 (k:Int)/\nT wr tb AS m cS V k cv A n c (mem:Int)/\wr.ownsRow (tb+1) 3 1 (.slice V k cv) k ((vZ l x k).map (.int .i64))/\Below w.heap.size w wr/\tb+1<=wr.heap.size) (λ r _=>m-(intOf r).toNat)
 case atStart=>exact⟨0,none,0,Nat.zero_le _,rfl,HT0.out,⟨rfl,.inl ⟨rfl,rfl⟩⟩,HB0.out,by have:=HTB.out;omega⟩
 case round =>
  obtain⟨k,V,cv,hkm,rfl,hT,hO,hbl,hsz⟩:=hrel;have HT:=hid hT;have HO:=hid hO;have bH:=hid hbl;have jI:=hid hsz;clear hT hO hbl hsz
  by_cases hlt:k<m
  ·have hii:(k:Int)<(m:Int):=by omega
   have dX:=hid hlt
   have X7:Hid (∀W,Below wr.heap.size wr W->Calls Tryz.prog 102 #[.slice AS m cS,.int .i64 x,.int .i64 (k:Int)] W λ e w'=>e = .returned (.int .i64 (gy l x k))/\Below wr.heap.size wr w'):=hid λ W hb=>by
    refine(JO l AS m cS x k W HM.out (HG.out.any (au bH.out hb)) (HK.out.below (au bH.out hb) HK.out.pos) HX0.out uK.out (by rw[<-HM.out];exact dX.out)).mono ?_;rintro e w' ⟨rfl,hb'⟩;exact⟨rfl,au hb hb'⟩
   have J8:=hid (Tz l x k);obtain⟨vz,hvz⟩:∃vz,gy l x k=vz:=⟨_,rfl⟩;rw[hvz]at X7 J8;obtain⟨t0,t1,t2,t3,t4⟩:=HT.out.cells;clear hlt hvz hkm t0 t2 t3;go_upto_region 7 with(fail)
   refine jC (λ W':World=>W'.cell? ⟨tb,1,none⟩=some (.slice V k cv)) (by kernel_rfl) (by kernel_rfl) (by kernel_rfl) t1 (λ hHeld=>?_);simp only[List.dropLast_cons_cons,List.dropLast_singleton,List.getLast_cons_cons,List.getLast_singleton];refine dS 0 ?_ rfl (by kernel_rfl) (λ _ _ _ h=>h) ?_ (by assumption) ?_
   rotate_left
   ·intro w hSw;(try dsimp only at hSw);go_simp;(try(with_reducible rfl))
   try simp only[Act.put,bn,bC,bD]
   refine dS 1 ?_ rfl (by kernel_rfl) (λ _ _ _ h=>h) ?_ (by assumption) ?_
   rotate_left
   ·intro w hSw;(try dsimp only at hSw);go_simp;(try(with_reducible rfl))
   try simp only[Act.put,bn,bC,bD]
   refine dS 2 ?_ rfl (by kernel_rfl) (λ _ _ _ h=>h) ?_ (by assumption) ?_
   rotate_left
   ·intro w hSw;(try dsimp only at hSw);go_simp;(try(with_reducible rfl))
   try simp only[Act.put,bn,bC,bD]
   refine dS 3 ?_ rfl (by kernel_rfl) (λ _ _ _ h=>h) ?_ (by assumption) ?_
   rotate_left
   ·intro w hSw;(try dsimp only at hSw);go_simp;(try(with_reducible rfl))
   try simp only[Act.put,bn,bC,bD]
   refine dS 4 ?_ rfl (by kernel_rfl) (λ _ _ _ h=>h) ?_ (by assumption) ?_
   rotate_left
   ·intro w hSw;(try dsimp only at hSw);go_simp;(try(with_reducible rfl))
   try simp only[Act.put,bn,bC,bD]
   refine dS 5 ?_ rfl (by kernel_rfl) (λ _ _ _ h=>h) ?_ (by assumption) ?_
   rotate_left
   ·intro w hSw;(try dsimp only at hSw);go_simp;(try(with_reducible rfl))
   try simp only[Act.put,bn,bC,bD]
   refine dS 6 ?_ rfl (by kernel_rfl) (λ _ _ _ h=>h) ?_ (by assumption) ?_
   rotate_left
   ·intro w hSw;(try dsimp only at hSw);go_simp;(try(with_reducible rfl))
   try simp only[Act.put,bn,bC,bD]
   refine dS 7 ?_ rfl (by kernel_rfl) (λ _ _ _ h=>h) ?_ (by assumption) ?_
   rotate_left
   ·intro w hSw;(try dsimp only at hSw);go_simp;(try(with_reducible rfl))
   try simp only[Act.put,bn,bC,bD]
   refine lK 8 (by kernel_rfl) rfl λ K hK=>?_
   go_simp
   (go_at_call 102;(with_reducible refine(X7.out _ ?_).mono ?_);exact(Below.refl _ _).drew;rintro e W1 ⟨rfl,hb1⟩;have qax:=hid hb1;clear hb1)
   go_wp2_with fail
   refine hK.out _ _ ?_ (λ hHeld=>?_)
   ·exact(HT.out.below qax.out).cells.2.1
   clear hK K
   try simp only[Act.put,bn,bC,bD]
   refine lK 9 (by kernel_rfl) rfl λ K hK=>?_
   go_simp
   refine hK.out _ _ ?_ (λ hHeld=>?_)
   ·exact(ak _ _ _ (Nat.lt_of_lt_of_le t4 qax.out.size)).trans (HT.out.below qax.out).cells.2.1
   clear hK K
   try simp only[Act.put,bn,bC,bD]
   refine dR (λ wA hwA hHeld=>?_) hHeld;have LY:Below W1.heap.size W1 wA:=by rw[hwA];exact(Below.refl _ _).alloc (Nat.le_refl _) _
   have VJ:Rd wA aW 1 (some ⟨W1.heap.size,0,none⟩) 1 1 [.int .i64 vz]:=by rw[hwA];exact Rd.fresh (D:=aW) rfl trivial (by simp) (by omega)
   have uJ:=hid (au qax.out LY);have FU:wA.ownsRow (tb+1) 3 1 (.slice V k cv) k ((vZ l x k).map (.int .i64)):=EH HO.out (V := λ _=>False) (aH.aS uJ.out) λ _ _ h=>h;clear hwA LY;refine lK 10 (by kernel_rfl) rfl λ K hK=>?_;refine dG _ (by rfl) _ _ 35 (by rfl) (tb+1) 3 i0 _ 1 8 Tryz.underlying35 hti hz0 hz1 hz2 rfl (by omega) (.slice V k cv) k _ (by rfl) FU _ (some ⟨W1.heap.size,0,none⟩) 1 1 _ (by rfl) VJ (by simp[Value.oneCell']) (by have:=dX.out;omega) (dJ (by have:=dX.out;omega)) (by have:=jI.out;have:=uJ.out.size;omega) ?_;intro A7 c77 w7 rQ vV Au
   have hne:∀k',(Value.slice V k cv).ownBlock=some k'->tb+1<=k' := λ k' hk=>by
    rcases FU.2 with⟨h0,_⟩|⟨g',cap,cur,hv',hb,hg',_⟩
    ·rw[h0]at hk;cases hk
    ·rw[hv']at hk
     have e1:g'=k':=Option.some.inj hk;omega
   have hk7:∀b',b'<wA.heap.size->b'<tb+1->w7.heap[b']?=wA.heap[b']? := λ b' h1 h2=>vV.block b' h1 (λ e=>by have:=hne _ e.symm;omega);have hT7:nT w7 tb AS m cS V k cv A n c (mem:Int):=(hk7 _ (Nat.lt_of_lt_of_le t4 uJ.out.size) (by omega)).trans (HT.out.below uJ.out);have zh:=hid (show Below w.heap.size w w7 from(au bH.out uJ.out).trans ⟨vV.os,vV.tape,vV.output,vV.size,λ b hb=>hk7 b (Nat.lt_of_lt_of_le hb (au bH.out uJ.out).size) (by have:=HTB.out;omega)⟩);have HS7:=hid (show tb+1<=w7.heap.size by have:=jI.out;have:=uJ.out.size;have:=vV.size;omega);refine hK.out _ _ ?_ (λ hHeld=>?_)
   ·exact hT7.cells.2.1
   clear hK K
   try simp only[Act.put,bn,bC,bD]
   refine dS 11 ?_ rfl (by kernel_rfl) (λ _ _ _ h=>h) ?_ (by assumption) ?_
   rotate_left
   ·intro w hSw;(try dsimp only at hSw);go_simp;(try(with_reducible rfl))
   try simp only[Act.put,bn,bC,bD]
   refine dS 12 ?_ rfl (by kernel_rfl) (λ _ _ _ h=>h) ?_ (by assumption) ?_
   rotate_left
   ·intro w hSw;(try dsimp only at hSw);go_simp;(try(with_reducible rfl))
   try simp only[Act.put,bn,bC,bD]
   have HT7:=hid hT7;have qci:=hid rQ;have f7:=aA hT7 (i:=1);have c7:=hT7.cells.2.1;have l7:=hT7.cells.2.2.2.2;clear hT7 rQ vV hk7 Au hHeld FU VJ hne t1 t4;refine wpAnyH_done (by kernel_rfl) ?_ _;unfold kZ
   go_simp
   go_wp2_with fail
   go_roundw
   case rel =>
    obtain⟨w8,hw8⟩:∃w8,w8=w7.setCell ⟨tb,1,none⟩ (.slice A7 (k+1) c77):=⟨_,rfl⟩;have Rk:aH (λ b=>b=tb) w7 w8:=by rw[hw8];exact(aH.refl (λ b=>b=tb) w7).set ⟨tb,1,none⟩ _ λ _=>rfl
    rw[<-hw8];refine⟨k+1,A7,c77,by have:=dX.out;omega,by go_num,?_,?_,zh.out.trans (Rk.below (λ b hb h=>by have:=HTB.out;omega) zh.out.size),by have:=HS7.out;have:=Rk.size;omega⟩
    ·unfold nT
     rw[hw8,aB HT7.out];rfl
    ·rw[J8.out,List.map_append]
     refine EH qci.out Rk λ k' hk' hv=>?_;have hv:k'=tb:=hv
     rcases qci.out.2 with⟨h0,_⟩|⟨g',cap,cur,hv',hb',hg',_⟩
     ·rw[h0]at hk';cases hk'
     ·rw[hv']at hk'
      have e1:g'=k':=Option.some.inj hk';omega
   case measure=>have:=dX.out;simp[intOf];omega
  ·have hii:¬(k:Int)<(m:Int):=by omega
   have hkm2:k=m:=by omega
   subst hkm2;clear hlt;go_wp2_with fail
   refine bodyPost_ret (v := .tuple #[.pointer (some ⟨tb,0,none⟩),.bool true]) (by simp[results,Tryz.results64,go_sem]) rfl ⟨tb,V,cv,rfl,HTB.out.1,HT.out,?_,bH.out⟩;have h3:=Rd.own HO.out (D := λ b=>w.heap.size<=b) (by omega) (λ g hg=>by have:=HTB.out;omega);unfold jm;rw[JM];exact h3
end Go.Proofs.YtdpbgcmfeajigaaGreatDoor
namespace Go.Proofs.YtdpbgcmfeajigaaGreatDoor
open Go.RowKit Go.Shelf
attribute [local go_sem] ak run_store_func Oper.semAt_some
structure zZ (l:List Sg) (AS:Option Addr) (cS m:Nat) (gs:List Fm) (A:Option Addr) (c n mem:Nat) (x:Int) (tb:Nat) (V:Option Addr) (cv:Nat) (w:World):Prop where
 hm:m=l.length
 hn:n=gs.length
 t:nT w tb AS m cS V m cv A n c (mem:Int)
 g:ng w aW AS cS l
 v:jm w aW V cv (vZ l x m)
 f:bZ w (Cl w) gs A c
 L:lH gs=true
 mem:mem<2 ^ n
 m6:m<=6
section
variable {l:List Sg}{AS:Option Addr}{cS m:Nat}{gs:List Fm}{A:Option Addr}{c n mem:Nat}{x:Int}{tb:Nat}{V:Option Addr}{cv:Nat}{w w':World}
theorem bZ.aV {l:List Fm}{A:Option Addr}{c:Nat}(h:bZ w (Cl w) l A c)(hb:Below w.heap.size w w'):bZ w' (Cl w') l A c :=
 ((h.mono (E := λ k=>Cl w k/\k<w.heap.size) λ k hk hl=>⟨hk,hl⟩).keep (Keeps.of_below hb λ _ h=>h.2)).mono λ k hk _=>hk.1.of_eq (hb.block k hk.2)
theorem zZ.below (h:zZ l AS cS m gs A c n mem x tb V cv w)(hb:Below w.heap.size w w'):zZ l AS cS m gs A c n mem x tb V cv w' :=
 ⟨h.hm,h.hn,h.t.below hb,h.g.any hb,(h.v.old.keep (Keeps.of_below hb λ _ h=>h)).mono λ _ _ _=>trivial,h.f.aV hb,h.L,h.mem,h.m6⟩
theorem zZ.n8 (h:zZ l AS cS m gs A c n mem x tb V cv w):n<=8/\mem<256:=by
 have h1:n<=8:=by rw[h.hn];exact(jw h.L).1
 have h2:=Lc h1;exact⟨h1,Nat.lt_of_lt_of_le h.mem h2⟩
end
theorem OQ (gs:List Fm)(mem:Nat)(f:Fm):bG gs mem f=decide (mem / 2 ^ jU f gs % 2=1):=by
 unfold bG;rw[Nat.testBit_eq_decide_div_mod_eq]
theorem GH {l:List Sg}{AS:Option Addr}{cS m:Nat}{gs:List Fm}{A:Option Addr}{c n mem:Nat}{x:Int}{tb:Nat}{V:Option Addr}{cv:Nat}{F:Dom}(f:Fm)(fb fo:Nat)(A2:Option Addr)(c2:Nat)(w:World)(hT:zZ l AS cS m gs A c n mem x tb V cv w)(hf:dU w F fb fo f A2 c2)(hm:f∈gs) :
  Calls Tryz.prog 104 #[.pointer (some ⟨tb,0,none⟩),.pointer (some ⟨fb,fo,none⟩)] w λ e w'=>e = .returned (.bool (bG gs mem f))/\Below w.heap.size w w':=by
 have HT:=hid hT;have HF:=hid hf.old;obtain⟨t0,t1,t2,t3,t4⟩:=hT.t.cells;have hk:jU f gs<gs.length:=qw.2 hm;have hfi:findF gs f=(jU f gs:Int):=by unfold findF;rw[if_pos hm]
 have PW:=hT.n8;have hn:=hT.hn;obtain⟨k,hke⟩:∃k,jU f gs=k:=⟨_,rfl⟩;rw[hke]at hk hfi;obtain⟨q,hq⟩:∃q,mem / 2 ^ k=q:=⟨_,rfl⟩
 have hqi:(mem:Int) / 2 ^ k=(q:Int):=by
  rw[<-hq];simp
 have VI:q<=mem:=by rw[<-hq];exact Nat.div_le_self _ _
 have hb:=Ae (a:=q) (by omega);have HS:=hid (OQ gs mem f);rw[hke,hq]at HS;obtain⟨r,hr⟩:∃r,q % 2=r:=⟨_,rfl⟩;rw[hr]at hb HS
 have HSB:=hid (show((r:Int)==1)=bG gs mem f by
  rw[HS.out]
  by_cases e:r=1
  ·subst e;rfl
  ·rw[decide_eq_false e];exact cu (by omega))
 have h0:(0:Int)<=(k:Int):=by omega
 have h1:(k:Int)<=64:=by omega
 have yQ:Hid (∀W,Below w.heap.size w W->Calls Tryz.prog 44 #[.slice A n c,.pointer (some ⟨fb,fo,none⟩)] W λ e w'=>e = .returned (.int .i64 (k:Int))/\Below w.heap.size w w'):=hid λ W hb=>by
  refine(uf gs A c n f fb fo A2 c2 W (HT.out.hn) (HT.out.below hb).f (HF.out.keep (Keeps.of_below hb λ _ h=>h)) (λ g hg=>oq HT.out.L hg) (.inl λ _ h=>h)).mono ?_;rintro e w' ⟨rfl,hb'⟩;exact⟨by rw[hfi],au hb hb'.below⟩
 have aI:Hid (∀W':World,Below w.heap.size w W'->W'.cell? ⟨tb,2,none⟩=some (.slice A n c)/\W'.cell? ⟨tb,3,none⟩=some (.int .i64 (mem:Int))):=hid λ W' hb =>
  ⟨(HT.out.t.below hb).cells.2.2.1,(HT.out.t.below hb).cells.2.2.2.1⟩
 have HI0:=hid (Below.refl w.heap.size w);have HI1:=hid (show Below w.heap.size w w.drew from(Below.refl w.heap.size w).drew);have HI2:=hid (show∀i,Below w.heap.size w (w.drewN i)from λ i=>below_drewN (Below.refl w.heap.size w) i);clear hT hf hm hk hfi PW hn hke hq VI hr t0 t1
 go_enter Tryz.func104,Tryz.ntmps104
 go_upto_region 1 with(fail)
 go_region_held3 (λ W':World=>W'.cell? ⟨tb,2,none⟩=some (.slice A n c)/\W'.cell? ⟨tb,3,none⟩=some (.int .i64 (mem:Int)))
  (first|(with_reducible exact aI.out _ hI)|(go_keep;done))
  ((go_at_call 44;(with_reducible refine(yQ.out _ (by first|exact HI0.out|exact HI1.out|exact HI2.out _)).mono ?_);rintro e W9 ⟨rfl,hI⟩))
 all_goals
  have HI:=hid hI;clear hI;go_wp2_with fail
  go_ret
  exact⟨by rw[<-HSB.out];rfl,HI.out⟩
end Go.Proofs.YtdpbgcmfeajigaaGreatDoor
namespace Go.Proofs.YtdpbgcmfeajigaaGreatDoor
open Go.RowKit Go.Shelf
attribute [local go_sem] ak run_store_func Oper.semAt_some
def kL (l:List Sg)(x:Int)(n:ByteArray)(v:Int):Bool:=decide (fK l n<l.length)&&(gy l x (fK l n)==v)
def qfX (l:List Sg)(AS:Option Addr)(cS m:Nat)(gs:List Fm)(A:Option Addr)(c n mem:Nat)(x:Int)(tb:Nat)(V:Option Addr)(cv:Nat)(f:Fm):Prop :=
 ∀(F:Dom) (fb fo:Nat) (A2:Option Addr) (c2:Nat) (w:World),zZ l AS cS m gs A c n mem x tb V cv w->dU w F fb fo f A2 c2 ->
  Calls Tryz.prog 66 #[.pointer (some ⟨tb,0,none⟩),.pointer (some ⟨fb,fo,none⟩)] w λ e w'=>e = .returned (.bool (fE (kL l x) (bG gs mem) f))/\Below w.heap.size w w'
theorem Ut {f:Fm}(h:bf f=true)(hp:allB iC f=true):f.op=1\/f.op=2\/f.op=3\/f.op=4\/f.op=5\/f.op=6\/f.op=15\/f.op=16\/f.op=17:=by
 have h1:=kT (jE (dL.1 (iI h).2.2).1).1;have h2:=(dL.1 (qJ.1 hp)).1;unfold iC at h2;have h3:(aJ f.op).future=false:=by simpa using h2
 unfold vC at h1
 have key:∀o:Int,(aJ o).future=false->¬(o=8\/o=9\/o=10):=by
  rintro o ho (rfl|rfl|rfl) <;> exact absurd ho (by decide)
 have:=key _ h3;omega
theorem KU {l:List Sg}{AS:Option Addr}{cS m:Nat}{gs:List Fm}{A:Option Addr}{c n mem:Nat}{x:Int}{tb:Nat}{V:Option Addr}{cv:Nat}(f:Fm)(hl:bf f=true)(hp:allB iC f=true)(hm:∀g,g∈aY f->g∈gs):qfX l AS cS m gs A c n mem x tb V cv f:=by
 refine Fm.pW (P := λ f=>bf f=true->allB iC f=true->(∀g,g∈aY f->g∈gs)->qfX l AS cS m gs A c n mem x tb V cv f) ?_ f hl hp hm;clear hl hp hm f;intro f ih hl hp hm F fb fo A2 c2 w hT hf;have HIH:=hid λ g (hg:g∈f.args)=>ih g hg (qF hg hl) (yE hp hg) (λ y hy=>hm y (mQ hg hy));have HT:=hid hT;have HF:=hid hf.old;have Hl:=hid (Ur (kL l x) (bG gs mem) f);have Pq:=hid (lX (iG hl));have HPM:=hid (λ h:jV f.op=true=>hm f (qY h));have hop:=Ut hl hp;have hal:=hf.args.len.1;obtain⟨_,q1,p0,p1,p2,p3,p4,_⟩:=hf;obtain⟨t0,t1,t2,t3,t4⟩:=hT.t.cells;obtain⟨N,hN⟩:∃N,N=f.args.length:=⟨_,rfl⟩;rw[<-hN]at p4 hal;have HN:=hid hN;clear ih hl hp hm hT hN t2 t3
 rcases hop with e|e|e|e|e|e|e|e|e
 ·have HV:=hid (show fE (kL l x) (bG gs mem) f=true by rw[Hl.out,e];rfl)
  rw[e]at p0;rw[HV.out];clear e p1 p2 p3 p4 t0 t1 hal
  go_enter Tryz.func66,Tryz.ntmps66
  go_wp2_with fail
  go_ret
  exact⟨rfl,by first|exact Below.refl _ _|go_grown⟩
 ·have HV:=hid (show fE (kL l x) (bG gs mem) f=false by rw[Hl.out,e];rfl)
  rw[e]at p0;rw[HV.out];clear e p1 p2 p3 p4 t0 t1 hal
  go_enter Tryz.func66,Tryz.ntmps66
  go_wp2_with fail
  go_ret
  exact⟨rfl,by first|exact Below.refl _ _|go_grown⟩
 ·have HV:=hid (show fE (kL l x) (bG gs mem) f=kL l x f.name f.val by rw[Hl.out,e];rfl)
  rw[e]at p0;obtain⟨r,hr⟩:∃r,fE (kL l x) (bG gs mem) f=r:=⟨_,rfl⟩;rw[hr]at HV⊢
  have yQ:Hid (∀W,Below w.heap.size w W->Calls Tryz.prog 103 #[.slice AS m cS,.string f.name] W λ e w'=>e = .returned (.int .i64 (iO l f.name))/\Below w.heap.size w w'):=hid λ W hb=>by
   refine(uH l f.name AS cS m W HT.out.hm (HT.out.below hb).g).mono ?_;rintro e w' ⟨rfl,hb'⟩;exact⟨rfl,au hb hb'⟩
  have aI:Hid (∀W':World,Below w.heap.size w W'->W'.cell? ⟨tb,0,none⟩=some (.slice AS m cS)/\W'.cell? ⟨fb,fo+1,none⟩=some (.string f.name)):=hid λ W' hb =>
   ⟨(HT.out.t.below hb).cells.1,(hb.cell (p:=⟨fb,fo+1,none⟩) q1).trans p1⟩
  have HI0:=hid (Below.refl w.heap.size w);have HI1:=hid (show Below w.heap.size w w.drew from(Below.refl w.heap.size w).drew);have HI2:=hid (show∀i,Below w.heap.size w (w.drewN i)from λ i=>below_drewN (Below.refl w.heap.size w) i);obtain⟨z,hz⟩:∃z,iO l f.name=z:=⟨_,rfl⟩;have HZ:=hid hz;have HP2:=hid p2;rw[hz]at yQ;clear e hr hz p3 p4 t1 p2 hal
  go_enter Tryz.func66,Tryz.ntmps66
  go_upto_region 5 with(fail)
  go_region_held3 (λ W':World=>W'.cell? ⟨tb,0,none⟩=some (.slice AS m cS)/\W'.cell? ⟨fb,fo+1,none⟩=some (.string f.name))
   (first|(with_reducible exact aI.out _ hI)|(go_keep;done))
   ((go_at_call 103;(with_reducible refine(yQ.out _ (by first|exact HI0.out|exact HI1.out|exact HI2.out _)).mono ?_);rintro e W9 ⟨rfl,hI⟩))
  all_goals
   have HI:=hid hI;have HTT:=hid (HT.out.below hI);have p2:=(hI.cell (p:=⟨fb,fo+2,none⟩) q1).trans HP2.out;have t1:=HTT.out.t.cells.2.1;have u1:=HTT.out.t.cells.2.2.2.2;have u2:=Nat.lt_of_lt_of_le q1 hI.size;clear hI p0 p1 t0 aI HI0 HI1 HI2
   by_cases hfn:fK l f.name<l.length
   ·have hz1:z=((fK l f.name:Nat):Int):=by rw[<-HZ.out];unfold iO;rw[if_pos hfn]
    obtain⟨i,hi⟩:∃i,fK l f.name=i:=⟨_,rfl⟩;have hr1:r=(gy l x i==f.val):=by rw[HV.out];unfold kL;rw[decide_eq_true hfn,hi];rfl
    rw[hi]at hz1 hfn;subst hz1;have him:i<m:=by rw[HT.out.hm];exact hfn
    have hv:=HTT.out.v;obtain⟨bv,ov,vy,rfl,_,hvl,HVY,hvc⟩:=hv.get (k:=i) (by rw[JM];exact him);obtain rfl:gy l x i=vy:=by rw[<-HVY.out,qad him]
    have HR1:=hid hr1;have him2:(i:Int)<(m:Int):=by omega
    have hi0:(0:Int)<=(i:Int):=by omega
    have hi1:¬(i:Int)<0:=by omega
    obtain⟨vz,hvz⟩:∃vz,gy l x i=vz:=⟨_,rfl⟩;rw[hvz]at hvc HR1;clear hi hfn hr1 hv hvz HVY;go_upto_region 6 with(fail)
    go_quiet (fail)
    go_wp2_with fail
    go_ret
    exact⟨by rw[HR1.out];rfl,below_drewN HI.out _⟩
   ·have hz1:z = -1:=by rw[<-HZ.out];unfold iO;rw[if_neg hfn]
    have HR1:=hid (show r=false by rw[HV.out];unfold kL;rw[decide_eq_false hfn];rfl);subst hz1;clear hfn;go_upto_region 6 with(fail)
    go_quiet (fail)
    go_wp2_with fail
    go_ret
    exact⟨by rw[HR1.out];rfl,below_drewN HI.out _⟩
 ·have hN1:N=1:=by rw[HN.out];exact Pq.out.1 (.inl e)
  obtain⟨b1,o1,Aa,ca,ga,rfl,HXa,hga⟩:=HF.out.args.get (k:=0) (by rw[<-HN.out,hN1];omega);have HGa:=hid (show dU w (· < w.heap.size) b1 (o1) ga Aa ca by simpa using hga);have XH:=hid (show ga∈f.args by rw[<-HXa.out];exact dA (by rw[<-HN.out,hN1];omega));obtain⟨ra,hra⟩:∃r,fE (kL l x) (bG gs mem) ga=r:=⟨_,rfl⟩;have HRa:=hid hra;have HQa:=hid (show(f.args.map (fE (kL l x) (bG gs mem))).getD 0 false=ra by rw[o8 _ _ _ default _ (by rw[<-HN.out,hN1];omega),HXa.out,hra]);clear hga hra
  have HCa:Hid (∀W,Below w.heap.size w W->Calls Tryz.prog 66 #[.pointer (some ⟨tb,0,none⟩),.pointer (some ⟨b1,o1,none⟩)] W λ e w'=>e = .returned (.bool ra)/\Below w.heap.size w w'):=hid λ W hb=>by
   refine(HIH.out ga XH.out _ b1 (o1) Aa ca W (HT.out.below hb) (HGa.out.keep (Keeps.of_below hb λ _ h=>h))).mono ?_;rintro e w' ⟨rfl,hb'⟩;exact⟨by rw[HRa.out],au hb hb'⟩
  have HV:=hid (show fE (kL l x) (bG gs mem) f = !ra by rw[Hl.out,e,<-HQa.out];rfl);rw[e]at p0;subst hN1;rw[HV.out];have HCw:=hid (HCa.out w (Below.refl _ _));clear e p1 p2 p3 t0 t1 hal
  go_enter Tryz.func66,Tryz.ntmps66
  go_wp2_with (go_at_call 66;(with_reducible refine HCw.out.mono ?_);rintro e W9 ⟨rfl,ni⟩;have rJ:=hid ni;clear ni)
  go_ret
  exact⟨by cases ra <;> rfl,rJ.out⟩
 ·have e0:=hid e
  rw[e]at p0;have HP0:=hid p0;have TL:=hid p4;clear e p1 p2 p3 t0 t1 t4
  go_enter Tryz.func66,Tryz.ntmps66
  go_wp2_with fail
  go_loopw [58] (λ r wr=>∃k:Nat,k<=N/\r = .int .i64 (k:Int)/\Below w.heap.size w wr/\(∀j,j<k->fE (kL l x) (bG gs mem) (f.args.getD j default)=true)) (λ r _=>N-(intOf r).toNat)
  case atStart=>exact⟨0,Nat.zero_le _,rfl,by first|exact Below.refl _ _|go_grown,λ _ h=>absurd h (Nat.not_lt_zero _)⟩
  case round =>
   obtain⟨k,hk,rfl,hbl,hdn⟩:=hrel;have bH:=hid hbl;have Hu:=hid hdn;clear hbl hdn p0 p4
   by_cases hlt:k<N
   ·have hii:(k:Int)<(N:Int):=by omega
    have hi0:(0:Int)<=(k:Int):=by omega
    have hlf:k<f.args.length:=by rw[<-HN.out];exact hlt
    obtain⟨b1,o1,A',c',g,rfl,HX,hg⟩:=(HF.out.keep (Keeps.of_below bH.out λ _ h=>h)).args.get hlf;have mZ:=hid (show fE (kL l x) (bG gs mem) (f.args.getD k default)=fE (kL l x) (bG gs mem) g by rw[HX.out]);have UJ:=hid (show g∈f.args by rw[<-HX.out];exact dA hlf);have HG:=hid hg;have dX:=hid hlt;obtain⟨rk,hrk⟩:∃r,fE (kL l x) (bG gs mem) g=r:=⟨_,rfl⟩;have XY:=hid hrk
    have aX:Hid (∀W,Below wr.heap.size wr W->Calls Tryz.prog 66 #[.pointer (some ⟨tb,0,none⟩),.pointer (some ⟨b1,o1+k*5,none⟩)] W λ e w'=>e = .returned (.bool rk)/\Below wr.heap.size wr w'):=hid λ W hb=>by
     refine(HIH.out g UJ.out _ b1 (o1+k*5) A' c' W (HT.out.below (au bH.out hb)) (HG.out.keep (Keeps.of_below hb λ k hk=>Nat.lt_of_lt_of_le hk bH.out.size))).mono ?_;rintro e w' ⟨rfl,hb'⟩;exact⟨by rw[XY.out],au hb hb'⟩
    have aI:Hid (∀W':World,Below wr.heap.size wr W'->W'.cell? ⟨fb,fo,none⟩=some (.int .i64 5)/\W'.cell? ⟨fb,fo+4,none⟩=some (.slice (some ⟨b1,o1,none⟩) N c2)):=hid λ W' hb =>
     ⟨((au bH.out hb).cell (p:=⟨fb,fo,none⟩) q1).trans HP0.out,((au bH.out hb).cell (p:=⟨fb,fo+4,none⟩) q1).trans TL.out⟩
    have HI0:=hid (Below.refl wr.heap.size wr);have HI1:=hid (show Below wr.heap.size wr wr.drew from(Below.refl wr.heap.size wr).drew);have HI2:=hid (show∀i,Below wr.heap.size wr (wr.drewN i)from λ i=>below_drewN (Below.refl wr.heap.size wr) i);obtain⟨y0,y4⟩:=aI.out wr (Below.refl _ _);have hbl:=Nat.lt_of_lt_of_le q1 bH.out.size;clear hg hrk hlf hlt hk HX;go_upto_region 14 with(fail)
    go_region_held3 (λ W':World=>W'.cell? ⟨fb,fo,none⟩=some (.int .i64 5)/\W'.cell? ⟨fb,fo+4,none⟩=some (.slice (some ⟨b1,o1,none⟩) N c2))
     (first|(with_reducible exact aI.out _ hI)|(go_keep;done))
     ((go_at_call 66;(with_reducible refine(aX.out _ (by first|exact HI0.out|exact HI1.out|exact HI2.out _)).mono ?_);rintro e W9 ⟨rfl,hI⟩))
    all_goals
     have HI:=hid hI;obtain⟨y0,y4⟩:=aI.out _ hI;have hbl:=Nat.lt_of_lt_of_le (Nat.lt_of_lt_of_le q1 bH.out.size) hI.size;clear hI;cases rk
     ·have HV:=hid (show fE (kL l x) (bG gs mem) f=false by
      rw[Hl.out,e0.out];show(f.args.map (fE (kL l x) (bG gs mem))).all id=false;rw[List.all_eq_false]
      exact⟨_,List.mem_map.2 ⟨g,UJ.out,rfl⟩,by rw[XY.out];simp⟩)
      go_wp2_with fail
      go_ret
      exact⟨by rw[HV.out];rfl,au bH.out HI.out⟩
     ·go_wp2_with fail
      go_roundw
      case rel=>exact⟨k+1,by have:=dX.out;omega,by go_num,au bH.out HI.out,λ j hj=>by
       by_cases hjk:j<k
       ·exact Hu.out j hjk
       ·obtain rfl:j=k:=by omega
        exact mZ.out.trans XY.out⟩
      case measure=>have:=dX.out;simp[intOf];omega
   ·have hii:¬(k:Int)<(N:Int):=by omega
    have hkN:k=N:=by omega
    have HV:=hid (show fE (kL l x) (bG gs mem) f=true by
    rw[Hl.out,e0.out];show(f.args.map (fE (kL l x) (bG gs mem))).all id=true;rw[List.all_eq_true];intro y hy;obtain⟨g,hg,rfl⟩:=List.mem_map.1 hy;obtain⟨j,hj,rfl⟩:=List.getElem_of_mem hg;have:=Hu.out j (by rw[hkN,HN.out];exact hj);rw[List.getD_eq_getElem?_getD,List.getElem?_eq_getElem hj,Option.getD_some]at this
    rw[this];rfl)
    have y0:=(bH.out.cell (p:=⟨fb,fo,none⟩) q1).trans HP0.out;have hbl:=Nat.lt_of_lt_of_le q1 bH.out.size;clear hlt hkN hk;go_wp2_with fail
    go_ret
    exact⟨by rw[HV.out];rfl,bH.out⟩
 ·have e0:=hid e
  rw[e]at p0;have HP0:=hid p0;have TL:=hid p4;clear e p1 p2 p3 t0 t1 t4
  go_enter Tryz.func66,Tryz.ntmps66
  go_wp2_with fail
  go_loopw [58] (λ r wr=>∃k:Nat,k<=N/\r = .int .i64 (k:Int)/\Below w.heap.size w wr/\(∀j,j<k->fE (kL l x) (bG gs mem) (f.args.getD j default)=false)) (λ r _=>N-(intOf r).toNat)
  case atStart=>exact⟨0,Nat.zero_le _,rfl,by first|exact Below.refl _ _|go_grown,λ _ h=>absurd h (Nat.not_lt_zero _)⟩
  case round =>
   obtain⟨k,hk,rfl,hbl,hdn⟩:=hrel;have bH:=hid hbl;have Hu:=hid hdn;clear hbl hdn p0 p4
   by_cases hlt:k<N
   ·have hii:(k:Int)<(N:Int):=by omega
    have hi0:(0:Int)<=(k:Int):=by omega
    have hlf:k<f.args.length:=by rw[<-HN.out];exact hlt
    obtain⟨b1,o1,A',c',g,rfl,HX,hg⟩:=(HF.out.keep (Keeps.of_below bH.out λ _ h=>h)).args.get hlf;have mZ:=hid (show fE (kL l x) (bG gs mem) (f.args.getD k default)=fE (kL l x) (bG gs mem) g by rw[HX.out]);have UJ:=hid (show g∈f.args by rw[<-HX.out];exact dA hlf);have HG:=hid hg;have dX:=hid hlt;obtain⟨rk,hrk⟩:∃r,fE (kL l x) (bG gs mem) g=r:=⟨_,rfl⟩;have XY:=hid hrk
    have aX:Hid (∀W,Below wr.heap.size wr W->Calls Tryz.prog 66 #[.pointer (some ⟨tb,0,none⟩),.pointer (some ⟨b1,o1+k*5,none⟩)] W λ e w'=>e = .returned (.bool rk)/\Below wr.heap.size wr w'):=hid λ W hb=>by
     refine(HIH.out g UJ.out _ b1 (o1+k*5) A' c' W (HT.out.below (au bH.out hb)) (HG.out.keep (Keeps.of_below hb λ k hk=>Nat.lt_of_lt_of_le hk bH.out.size))).mono ?_;rintro e w' ⟨rfl,hb'⟩;exact⟨by rw[XY.out],au hb hb'⟩
    have aI:Hid (∀W':World,Below wr.heap.size wr W'->W'.cell? ⟨fb,fo,none⟩=some (.int .i64 6)/\W'.cell? ⟨fb,fo+4,none⟩=some (.slice (some ⟨b1,o1,none⟩) N c2)):=hid λ W' hb =>
     ⟨((au bH.out hb).cell (p:=⟨fb,fo,none⟩) q1).trans HP0.out,((au bH.out hb).cell (p:=⟨fb,fo+4,none⟩) q1).trans TL.out⟩
    have HI0:=hid (Below.refl wr.heap.size wr);have HI1:=hid (show Below wr.heap.size wr wr.drew from(Below.refl wr.heap.size wr).drew);have HI2:=hid (show∀i,Below wr.heap.size wr (wr.drewN i)from λ i=>below_drewN (Below.refl wr.heap.size wr) i);obtain⟨y0,y4⟩:=aI.out wr (Below.refl _ _);have hbl:=Nat.lt_of_lt_of_le q1 bH.out.size;clear hg hrk hlf hlt hk HX;go_upto_region 14 with(fail)
    go_region_held3 (λ W':World=>W'.cell? ⟨fb,fo,none⟩=some (.int .i64 6)/\W'.cell? ⟨fb,fo+4,none⟩=some (.slice (some ⟨b1,o1,none⟩) N c2))
     (first|(with_reducible exact aI.out _ hI)|(go_keep;done))
     ((go_at_call 66;(with_reducible refine(aX.out _ (by first|exact HI0.out|exact HI1.out|exact HI2.out _)).mono ?_);rintro e W9 ⟨rfl,hI⟩))
    all_goals
     have HI:=hid hI;obtain⟨y0,y4⟩:=aI.out _ hI;have hbl:=Nat.lt_of_lt_of_le (Nat.lt_of_lt_of_le q1 bH.out.size) hI.size;clear hI;cases rk
     ·go_wp2_with fail
      go_roundw
      case rel=>exact⟨k+1,by have:=dX.out;omega,by go_num,au bH.out HI.out,λ j hj=>by
       by_cases hjk:j<k
       ·exact Hu.out j hjk
       ·obtain rfl:j=k:=by omega
        exact mZ.out.trans XY.out⟩
      case measure=>have:=dX.out;simp[intOf];omega
     ·have HV:=hid (show fE (kL l x) (bG gs mem) f=true by
      rw[Hl.out,e0.out];show(f.args.map (fE (kL l x) (bG gs mem))).any id=true;rw[List.any_eq_true]
      exact⟨_,List.mem_map.2 ⟨g,UJ.out,rfl⟩,by rw[XY.out];rfl⟩)
      go_wp2_with fail
      go_ret
      exact⟨by rw[HV.out];rfl,au bH.out HI.out⟩
   ·have hii:¬(k:Int)<(N:Int):=by omega
    have hkN:k=N:=by omega
    have HV:=hid (show fE (kL l x) (bG gs mem) f=false by
    rw[Hl.out,e0.out];show(f.args.map (fE (kL l x) (bG gs mem))).any id=false;rw[List.any_eq_false];intro y hy;obtain⟨g,hg,rfl⟩:=List.mem_map.1 hy;obtain⟨j,hj,rfl⟩:=List.getElem_of_mem hg;have:=Hu.out j (by rw[hkN,HN.out];exact hj);rw[List.getD_eq_getElem?_getD,List.getElem?_eq_getElem hj,Option.getD_some]at this
    rw[this];simp)
    have y0:=(bH.out.cell (p:=⟨fb,fo,none⟩) q1).trans HP0.out;have hbl:=Nat.lt_of_lt_of_le q1 bH.out.size;clear hlt hkN hk;go_wp2_with fail
    go_ret
    exact⟨by rw[HV.out];rfl,bH.out⟩
 ·have HV:=hid (show fE (kL l x) (bG gs mem) f=bG gs mem f by rw[Hl.out,e];rfl)
  have HSY:=hid (GH f fb fo A2 c2 w HT.out HF.out (HPM.out (by rw[e];rfl)));rw[e]at p0;rw[HV.out];clear e p1 p2 p3 p4 t0 t1 hal
  go_enter Tryz.func66,Tryz.ntmps66
  go_wp2_with (go_at_call 104;(with_reducible refine HSY.out.mono ?_);rintro e W9 ⟨rfl,ni⟩;have rJ:=hid ni;clear ni)
  go_ret
  exact⟨rfl,rJ.out⟩
 ·have hN1:N=2:=by rw[HN.out];exact Pq.out.2 (by omega)
  obtain⟨b1,o1,Aa,ca,ga,rfl,HXa,hga⟩:=HF.out.args.get (k:=0) (by rw[<-HN.out,hN1];omega);have HGa:=hid (show dU w (· < w.heap.size) b1 (o1) ga Aa ca by simpa using hga);have XH:=hid (show ga∈f.args by rw[<-HXa.out];exact dA (by rw[<-HN.out,hN1];omega));obtain⟨ra,hra⟩:∃r,fE (kL l x) (bG gs mem) ga=r:=⟨_,rfl⟩;have HRa:=hid hra;have HQa:=hid (show(f.args.map (fE (kL l x) (bG gs mem))).getD 0 false=ra by rw[o8 _ _ _ default _ (by rw[<-HN.out,hN1];omega),HXa.out,hra]);clear hga hra
  have HCa:Hid (∀W,Below w.heap.size w W->Calls Tryz.prog 66 #[.pointer (some ⟨tb,0,none⟩),.pointer (some ⟨b1,o1,none⟩)] W λ e w'=>e = .returned (.bool ra)/\Below w.heap.size w w'):=hid λ W hb=>by
   refine(HIH.out ga XH.out _ b1 (o1) Aa ca W (HT.out.below hb) (HGa.out.keep (Keeps.of_below hb λ _ h=>h))).mono ?_;rintro e w' ⟨rfl,hb'⟩;exact⟨by rw[HRa.out],au hb hb'⟩
  obtain⟨b2,o2,Ab,cb,gb,hAb,HXb,hgb⟩:=HF.out.args.get (k:=1) (by rw[<-HN.out,hN1];omega)
  obtain⟨rfl,rfl⟩:b1=b2/\o1=o2:=by injection hAb with h;injection h with h1 h2;exact⟨h1,h2⟩
  have HGb:=hid (show dU w (· < w.heap.size) b1 (o1+5) gb Ab cb by simpa using hgb);have qdd:=hid (show gb∈f.args by rw[<-HXb.out];exact dA (by rw[<-HN.out,hN1];omega));obtain⟨rb,hrb⟩:∃r,fE (kL l x) (bG gs mem) gb=r:=⟨_,rfl⟩;have HRb:=hid hrb;have HQb:=hid (show(f.args.map (fE (kL l x) (bG gs mem))).getD 1 false=rb by rw[o8 _ _ _ default _ (by rw[<-HN.out,hN1];omega),HXb.out,hrb]);clear hgb hrb
  have HCb:Hid (∀W,Below w.heap.size w W->Calls Tryz.prog 66 #[.pointer (some ⟨tb,0,none⟩),.pointer (some ⟨b1,o1+5,none⟩)] W λ e w'=>e = .returned (.bool rb)/\Below w.heap.size w w'):=hid λ W hb=>by
   refine(HIH.out gb qdd.out _ b1 (o1+5) Ab cb W (HT.out.below hb) (HGb.out.keep (Keeps.of_below hb λ _ h=>h))).mono ?_;rintro e w' ⟨rfl,hb'⟩;exact⟨by rw[HRb.out],au hb hb'⟩
  obtain⟨s,hs⟩:∃s,bG gs mem f=s:=⟨_,rfl⟩;have qdA:=hid hs;have HV:=hid (show fE (kL l x) (bG gs mem) f=(rb || (ra&&s))by rw[Hl.out,e,<-HQa.out,<-HQb.out,hs];rfl)
  have HSY:Hid (∀W,Below w.heap.size w W->Calls Tryz.prog 104 #[.pointer (some ⟨tb,0,none⟩),.pointer (some ⟨fb,fo,none⟩)] W λ e w'=>e = .returned (.bool s)/\Below w.heap.size w w'):=hid λ W hb=>by
   refine(GH f fb fo _ c2 W (HT.out.below hb) (HF.out.keep (Keeps.of_below hb λ _ h=>h)) (HPM.out (by rw[e];rfl))).mono ?_;rintro e w' ⟨rfl,hb'⟩;exact⟨by rw[qdA.out],au hb hb'⟩
  rw[e]at p0;subst hN1;rw[HV.out];have HB0:=hid (Below.refl w.heap.size w);have TL:=hid p4;have hab:¬(o1=o1+5):=by omega
  clear e p1 p2 p3 t0 t1 hal hs
  cases rb <;> cases ra
  all_goals
   go_enter Tryz.func66,Tryz.ntmps66
   go_wp2_with (first
    | (go_at_call 66;(with_reducible refine(HCb.out _ HB0.out).mono ?_);rintro e W9 ⟨rfl,ni⟩;have rJ:=hid ni;have p4:=(ni.cell (p:=⟨fb,fo+4,none⟩) q1).trans TL.out;have q9:=Nat.lt_of_lt_of_le q1 ni.size;clear ni)
    | (go_at_call 66;(with_reducible refine(HCa.out _ rJ.out).mono ?_);rintro e W8 ⟨rfl,hb8⟩;have xJ:=hid hb8;clear hb8)
    | (go_at_call 104;(with_reducible refine(HSY.out _ (by first|exact xJ.out|exact rJ.out)).mono ?_);rintro e W7 ⟨rfl,hb7⟩;have zh:=hid hb7;clear hb7))
   go_ret
   exact⟨by first|rfl|(cases s <;> rfl),by first|exact zh.out|exact xJ.out|exact rJ.out⟩
 ·have hN1:N=2:=by rw[HN.out];exact Pq.out.2 (by omega)
  obtain⟨b1,o1,Aa,ca,ga,rfl,HXa,hga⟩:=HF.out.args.get (k:=0) (by rw[<-HN.out,hN1];omega);have HGa:=hid (show dU w (· < w.heap.size) b1 (o1) ga Aa ca by simpa using hga);have XH:=hid (show ga∈f.args by rw[<-HXa.out];exact dA (by rw[<-HN.out,hN1];omega));obtain⟨ra,hra⟩:∃r,fE (kL l x) (bG gs mem) ga=r:=⟨_,rfl⟩;have HRa:=hid hra;have HQa:=hid (show(f.args.map (fE (kL l x) (bG gs mem))).getD 0 false=ra by rw[o8 _ _ _ default _ (by rw[<-HN.out,hN1];omega),HXa.out,hra]);clear hga hra
  have HCa:Hid (∀W,Below w.heap.size w W->Calls Tryz.prog 66 #[.pointer (some ⟨tb,0,none⟩),.pointer (some ⟨b1,o1,none⟩)] W λ e w'=>e = .returned (.bool ra)/\Below w.heap.size w w'):=hid λ W hb=>by
   refine(HIH.out ga XH.out _ b1 (o1) Aa ca W (HT.out.below hb) (HGa.out.keep (Keeps.of_below hb λ _ h=>h))).mono ?_;rintro e w' ⟨rfl,hb'⟩;exact⟨by rw[HRa.out],au hb hb'⟩
  obtain⟨b2,o2,Ab,cb,gb,hAb,HXb,hgb⟩:=HF.out.args.get (k:=1) (by rw[<-HN.out,hN1];omega)
  obtain⟨rfl,rfl⟩:b1=b2/\o1=o2:=by injection hAb with h;injection h with h1 h2;exact⟨h1,h2⟩
  have HGb:=hid (show dU w (· < w.heap.size) b1 (o1+5) gb Ab cb by simpa using hgb);have qdd:=hid (show gb∈f.args by rw[<-HXb.out];exact dA (by rw[<-HN.out,hN1];omega));obtain⟨rb,hrb⟩:∃r,fE (kL l x) (bG gs mem) gb=r:=⟨_,rfl⟩;have HRb:=hid hrb;have HQb:=hid (show(f.args.map (fE (kL l x) (bG gs mem))).getD 1 false=rb by rw[o8 _ _ _ default _ (by rw[<-HN.out,hN1];omega),HXb.out,hrb]);clear hgb hrb
  have HCb:Hid (∀W,Below w.heap.size w W->Calls Tryz.prog 66 #[.pointer (some ⟨tb,0,none⟩),.pointer (some ⟨b1,o1+5,none⟩)] W λ e w'=>e = .returned (.bool rb)/\Below w.heap.size w w'):=hid λ W hb=>by
   refine(HIH.out gb qdd.out _ b1 (o1+5) Ab cb W (HT.out.below hb) (HGb.out.keep (Keeps.of_below hb λ _ h=>h))).mono ?_;rintro e w' ⟨rfl,hb'⟩;exact⟨by rw[HRb.out],au hb hb'⟩
  obtain⟨s,hs⟩:∃s,bG gs mem f=s:=⟨_,rfl⟩;have qdA:=hid hs;have HV:=hid (show fE (kL l x) (bG gs mem) f=(rb&&(ra || s))by rw[Hl.out,e,<-HQa.out,<-HQb.out,hs];rfl)
  have HSY:Hid (∀W,Below w.heap.size w W->Calls Tryz.prog 104 #[.pointer (some ⟨tb,0,none⟩),.pointer (some ⟨fb,fo,none⟩)] W λ e w'=>e = .returned (.bool s)/\Below w.heap.size w w'):=hid λ W hb=>by
   refine(GH f fb fo _ c2 W (HT.out.below hb) (HF.out.keep (Keeps.of_below hb λ _ h=>h)) (HPM.out (by rw[e];rfl))).mono ?_;rintro e w' ⟨rfl,hb'⟩;exact⟨by rw[qdA.out],au hb hb'⟩
  rw[e]at p0;subst hN1;rw[HV.out];have HB0:=hid (Below.refl w.heap.size w);have TL:=hid p4;have hab:¬(o1=o1+5):=by omega
  clear e p1 p2 p3 t0 t1 hal hs
  cases rb <;> cases ra
  all_goals
   go_enter Tryz.func66,Tryz.ntmps66
   go_wp2_with (first
    | (go_at_call 66;(with_reducible refine(HCb.out _ HB0.out).mono ?_);rintro e W9 ⟨rfl,ni⟩;have rJ:=hid ni;have p4:=(ni.cell (p:=⟨fb,fo+4,none⟩) q1).trans TL.out;have q9:=Nat.lt_of_lt_of_le q1 ni.size;clear ni)
    | (go_at_call 66;(with_reducible refine(HCa.out _ rJ.out).mono ?_);rintro e W8 ⟨rfl,hb8⟩;have xJ:=hid hb8;clear hb8)
    | (go_at_call 104;(with_reducible refine(HSY.out _ (by first|exact xJ.out|exact rJ.out)).mono ?_);rintro e W7 ⟨rfl,hb7⟩;have zh:=hid hb7;clear hb7))
   go_ret
   exact⟨by first|rfl|(cases s <;> rfl),by first|exact zh.out|exact xJ.out|exact rJ.out⟩
end Go.Proofs.YtdpbgcmfeajigaaGreatDoor
namespace Go.Proofs.YtdpbgcmfeajigaaGreatDoor
open Go.RowKit Go.Shelf
attribute [local go_sem] ak run_store_func Oper.semAt_some
theorem Ac.data {l:List Sg}{AS:Option Addr}{cS m:Nat}{gs:List Fm}{A:Option Addr}{c n mem:Nat}{x:Int}{w w':World}{tb:Nat}{V:Option Addr}{cv:Nat}{E:Dom}(hT:nT w' tb AS m cS V m cv A n c (mem:Int))(hV:jm w' (λ b=>w.heap.size<=b) V cv (vZ l x m))(hb:Below w.heap.size w w')
  (hm:m=l.length) (hn:n=gs.length) (hG:ng w E AS cS l) (hA:bZ w (Cl w) gs A c) (hL:lH gs=true) (hmem:mem<2 ^ n) (h6:m<=6):zZ l AS cS m gs A c n mem x tb V cv w' :=
 ⟨hm,hn,hT,hG.any hb,hV.mono λ _ _ _=>trivial,hA.aV hb,hL,hmem,h6⟩
theorem qbH {gs:List Fm}(h:lH gs=true){i:Nat}(hi:i<gs.length){g:Fm}(hg:g∈aY (gs.getD i default)):g∈gs:=by
 by_cases e:g=gs.getD i default
 ·rw[e];exact dA hi
 ·have:=((jw h).2 i hi).2.2.2.2 g hg e
  unfold findF at this
  by_cases h2:g∈gs.take i
  ·exact List.mem_of_mem_take h2
  ·rw[if_neg h2]at this;omega
theorem DU {l:List Sg}{x:Int}(h0:0<=x)(h1:x<dh l):l.length<=6:=(gI (nI h0 h1).1).2.1
theorem qbL {E F:Dom}(l:List Sg)(AS:Option Addr)(cS m:Nat)(gs:List Fm)(A:Option Addr)(c n:Nat)(mem:Nat)(x:Int)(f:Fm)(v:Value)(w:World)(hm:m=l.length)(hG:ng w E AS cS l)(hn:n=gs.length)(h:bZ w (Cl w) gs A c)(hL:lH gs=true)(hg:GF w)(hk:GK w)
  (hmem:mem<2 ^ n) (hx0:0<=x) (hx1:x<dh l) (hF:bI w F v f) (hl:bf f=true) (hp:allB iC f=true) (hin:∀g,g∈aY f->g∈gs) :
  Calls Tryz.prog 20 #[.slice AS m cS,.slice A n c,.int .i64 (mem:Int),.int .i64 x,v] w λ e w'=>e = .returned (.bool (fE (kL l x) (bG gs mem) f))/\Below w.heap.size w w':=by
 obtain⟨A2,c2,rfl,hA2⟩:=hF;have HG:=hid hG;have HM:=hid hm;have HN:=hid hn;have HA:=hid h;have HL:=hid hL;have yM:=hid hg;have J3:=hid hk;have HME:=hid hmem;have HX:=hid (And.intro hx0 hx1);have HA2:=hid hA2.old;have sW:=hid hl;have HP:=hid hp;have Pz:=hid hin;obtain⟨r,hr⟩:∃r,fE (kL l x) (bG gs mem) f=r:=⟨_,rfl⟩;have HR:=hid hr;rw[hr];clear hG hm hn h hL hg hk hmem hx0 hx1 hA2 hl hp hin hr
 go_enter Tryz.func20,Tryz.ntmps20
 go_upto_region 1 with(fail)
 refine aC λ U hU=>?_;have HB:=hid (show Below w.heap.size w U by rw[hU];go_grown);have HE:=hid (show dH U w.heap.size f A2 c2 by show U.heap[w.heap.size]?=_;rw[hU];exact at_new _ _ _ rfl);clear hU;have EN:Hid (dU U aW w.heap.size 0 f A2 c2):=hid (dH.yN HE.out trivial ((HA2.out.keep (Keeps.of_below HB.out λ _ h=>h)).mono λ _ _ _=>trivial));have Ed:=hid (G5 (D:=Cl U) l AS cS m gs A c n mem x U HM.out (HG.out.any HB.out) HN.out (HA.out.aV HB.out) (λ _ h=>h) HL.out (yM.out.below HB.out yM.out.pos) (J3.out.below HB.out J3.out.pos) HME.out HX.out.1 HX.out.2)
 go_upto_region 2 with(go_at_call 64;(with_reducible refine Ed.out.mono ?_);rintro e W1 ⟨tb,V,cv,rfl,htb,hta,hv,hb1⟩;have HTA:=hid (Ac.data hta hv hb1 HM.out HN.out (HG.out.any HB.out) (HA.out.aV HB.out) HL.out HME.out (by rw[HM.out];exact DU HX.out.1 HX.out.2));have HB1:=hid hb1;clear htb hta hv hb1)
 have aT:=hid (au HB.out HB1.out);have Qu:=hid (dH.yN (D:=aW) (HE.out.below HB1.out) trivial ((HA2.out.keep (Keeps.of_below aT.out λ _ h=>h)).mono λ _ _ _=>trivial));have HHN:=hid (Aq (E:=aW) gs A c n f w.heap.size 0 A2 c2 W1 HN.out HTA.out.f (λ _ h=>h) (λ f hf=>oq HL.out hf) Qu.out sW.out Pz.out (yM.out.below aT.out yM.out.pos) (J3.out.below aT.out J3.out.pos))
 have aI:Hid (∀W':World,Below W1.heap.size W1 W'->W'.cell? ⟨w.heap.size,0,none⟩=some (.int .i64 f.op)/\W'.cell? ⟨w.heap.size,1,none⟩=some (.string f.name)/\W'.cell? ⟨w.heap.size,2,none⟩=some (.int .i64 f.val)/\W'.cell? ⟨w.heap.size,3,none⟩=some (.int .i64 f.bound)/\W'.cell? ⟨w.heap.size,4,none⟩=some (.slice A2 f.args.length c2)/\w.heap.size<W'.heap.size):=hid λ W' hb=>by
  have he:=((HE.out.below HB1.out).below hb).cells;exact⟨he.1,he.2.1,he.2.2.1,he.2.2.2.1,he.2.2.2.2.1,he.2.2.2.2.2⟩
 have HPA:Hid (∀W,Below W1.heap.size W1 W->Calls Tryz.prog 12 #[.agg #[.int .i64 f.op,.string f.name,.int .i64 f.val,.int .i64 f.bound,.slice A2 f.args.length c2]] W λ e w'=>e = .returned (.bool true)/\Below W1.heap.size W1 w'):=hid λ W hb=>by
  have hbw:=au aT.out hb;refine(Gj f _ W (bI.cells5 (HA2.out.keep (Keeps.of_below hbw λ _ h=>h))) (yM.out.below hbw yM.out.pos) (by have:=(iI sW.out).2.1;omega)).mono ?_;rintro e w' ⟨rfl,hw⟩;rw[HP.out];exact⟨rfl,au hb hw⟩
 obtain⟨p0,p1,p2,p3,p4,p5⟩:=aI.out W1 (Below.refl _ _)
 go_upto_region 4 with(first
  | (go_at_call 65;(with_reducible refine HHN.out.mono ?_);rintro e W2 ⟨rfl,hb2⟩;clear p0 p1 p2 p3 p4 p5;obtain⟨p0,p1,p2,p3,p4,p5⟩:=aI.out W2 hb2;have HB2:=hid hb2;clear hb2)
  | (go_at_call 12;(with_reducible refine(HPA.out _ HB2.out).mono ?_);rintro e W3 ⟨rfl,hb3⟩;clear p0 p1 p2 p3 p4 p5;have HB3:=hid hb3;clear hb3))
 have MH:=hid (KU f sW.out HP.out Pz.out aW w.heap.size 0 A2 c2 W3 (HTA.out.below HB3.out) (dH.yN (D:=aW) ((HE.out.below HB1.out).below HB3.out) trivial ((HA2.out.keep (Keeps.of_below (au aT.out HB3.out) λ _ h=>h)).mono λ _ _ _=>trivial)));rw[HR.out]at MH;go_wp2_with (go_at_call 66;(with_reducible refine MH.out.mono ?_);rintro e W4 ⟨rfl,hb4⟩;have HB4:=hid hb4;clear hb4)
 go_ret
 exact⟨rfl,au (au aT.out HB3.out) HB4.out⟩
theorem Og (sg:ByteArray->Int->Bool)(gs:List Fm)(mem:Nat):Jo sg gs mem=(List.range gs.length).map λ i=>fE sg (bG gs mem) (iy (gs.getD i default)):=by
 unfold Jo;refine List.ext_getElem (by simp) λ i h1 h2=>?_;have hi:i<gs.length:=by simpa using h1
 simp[List.getD,hi]
theorem Wn {l:List Sg}{AS:Option Addr}{cS m:Nat}{gs:List Fm}{A:Option Addr}{c n mem:Nat}{x:Int}{tb:Nat}{V:Option Addr}{cv:Nat}(sb pb i:Nat)(w:World)(hT:zZ l AS cS m gs A c n mem x tb V cv w)(hs:w.cell? ⟨sb,0,none⟩=some (.slice A n c))(hp:w.cell? ⟨pb,0,none⟩=some (.pointer (some ⟨tb,0,none⟩)))(hi:i<n) :
  Calls Tryz.prog 69 #[.int .i64 (i:Int),.pointer (some ⟨sb,0,none⟩),.pointer (some ⟨pb,0,none⟩)] w λ e w'=>e = .returned (.bool (fE (kL l x) (bG gs mem) (iy (gs.getD i default))))/\Below w.heap.size w w':=by
 have hig:i<gs.length:=by rw[<-hT.hn];exact hi
 obtain⟨b1,o1,A',c',g,rfl,HX,hgf⟩:=hT.f.get hig;have Hg:=hid ((jw hT.L).2 i hig);have Pz:=hid λ y (hy:y∈aY (gs.getD i default))=>qbH hT.L hig hy;rw[HX.out]at Hg Pz⊢;have HT:=hid hT;have HF:=hid hgf.old;have hsl:=World.block_lt_of_cell? w _ hs;have hpl:=World.block_lt_of_cell? w _ hp;have hii:(i:Int)<(n:Int):=by omega
 have hi0:(0:Int)<=(i:Int):=by omega
 have HS:=hid hs;have zU:=hid hp;obtain⟨_,q1,p0,p1,p2,p3,p4,_⟩:=hgf;obtain⟨r,hr⟩:∃r,fE (kL l x) (bG gs mem) (iy g)=r:=⟨_,rfl⟩;have HR:=hid hr;rw[hr];have HQ1:=hid q1;have TL:=hid p4;clear hT hig HX hr p1 p2 p3
 by_cases e:g.op=15
 ·have h1:=(lX (iG Hg.out.2.1)).1 (.inr (.inr e))
  obtain⟨b2,o2,A3,c3,a,rfl,HY,ha⟩:=HF.out.args.get (k:=0) (by omega);have HAF:=hid (show dU w (· < w.heap.size) b2 o2 a A3 c3 by simpa using ha);have ham:a∈g.args:=by rw[<-HY.out];exact dA (by omega)
  have HLK:=hid (show iy g=a by unfold iy;rw[if_pos e];exact HY.out)
  have aX:Hid (∀W,Below w.heap.size w W->Calls Tryz.prog 66 #[.pointer (some ⟨tb,0,none⟩),.pointer (some ⟨b2,o2,none⟩)] W λ e w'=>e = .returned (.bool r)/\Below w.heap.size w w'):=hid λ W hb=>by
   refine(KU a (qF ham Hg.out.2.1) (yE Hg.out.2.2.1 ham) (λ y hy=>Pz.out y (mQ ham hy)) (· < w.heap.size) b2 o2 A3 c3 W (HT.out.below hb) (HAF.out.keep (Keeps.of_below hb λ _ h=>h))).mono ?_;rintro e w' ⟨rfl,hb'⟩;exact⟨by rw[<-HR.out,HLK.out],au hb hb'⟩
  rw[h1]at p4 TL;rw[e]at p0
  have aI:Hid (∀W':World,Below w.heap.size w W'->W'.cell? ⟨sb,0,none⟩=some (.slice (some ⟨b1,o1,none⟩) n c)/\W'.cell? ⟨pb,0,none⟩=some (.pointer (some ⟨tb,0,none⟩))/\W'.cell? ⟨b1,o1+i*5+4,none⟩=some (.slice (some ⟨b2,o2,none⟩) 1 c')):=hid λ W' hb =>
   ⟨(hb.cell (p:=⟨sb,0,none⟩) hsl).trans HS.out,(hb.cell (p:=⟨pb,0,none⟩) hpl).trans zU.out,(hb.cell (p:=⟨b1,o1+i*5+4,none⟩) HQ1.out).trans TL.out⟩
  have HI0:=hid (Below.refl w.heap.size w);have HI1:=hid (show Below w.heap.size w w.drew from(Below.refl w.heap.size w).drew);have HI2:=hid (show∀i,Below w.heap.size w (w.drewN i)from λ i=>below_drewN (Below.refl w.heap.size w) i);clear e h1 ha ham HY
  go_enter Tryz.func69,Tryz.ntmps69
  go_upto_region 2 with(fail)
  go_region_held3 (λ W':World=>W'.cell? ⟨sb,0,none⟩=some (.slice (some ⟨b1,o1,none⟩) n c)/\W'.cell? ⟨pb,0,none⟩=some (.pointer (some ⟨tb,0,none⟩))/\W'.cell? ⟨b1,o1+i*5+4,none⟩=some (.slice (some ⟨b2,o2,none⟩) 1 c'))
   (first|(with_reducible exact aI.out _ hI)|(go_keep;done))
   ((go_at_call 66;(with_reducible refine(aX.out _ (by first|exact HI0.out|exact HI1.out|exact HI2.out _)).mono ?_);rintro e W9 ⟨rfl,hI⟩))
  all_goals
   have HI:=hid hI;clear hI;go_wp2_with fail
   go_ret
   exact⟨rfl,HI.out⟩
 ·have d1:(g.op==15)=false:=cu e
  have HLK:=hid (show iy g=g by unfold iy;rw[if_neg e])
  have aX:Hid (∀W,Below w.heap.size w W->Calls Tryz.prog 66 #[.pointer (some ⟨tb,0,none⟩),.pointer (some ⟨b1,o1+i*5,none⟩)] W λ e w'=>e = .returned (.bool r)/\Below w.heap.size w w'):=hid λ W hb=>by
   refine(KU g Hg.out.2.1 Hg.out.2.2.1 Pz.out (· < w.heap.size) b1 (o1+i*5) A' c' W (HT.out.below hb) (HF.out.keep (Keeps.of_below hb λ _ h=>h))).mono ?_;rintro e w' ⟨rfl,hb'⟩;exact⟨by rw[<-HR.out,HLK.out],au hb hb'⟩
  have aI:Hid (∀W':World,Below w.heap.size w W'->W'.cell? ⟨sb,0,none⟩=some (.slice (some ⟨b1,o1,none⟩) n c)/\W'.cell? ⟨pb,0,none⟩=some (.pointer (some ⟨tb,0,none⟩))):=hid λ W' hb =>
   ⟨(hb.cell (p:=⟨sb,0,none⟩) hsl).trans HS.out,(hb.cell (p:=⟨pb,0,none⟩) hpl).trans zU.out⟩
  have HI0:=hid (Below.refl w.heap.size w);have HI1:=hid (show Below w.heap.size w w.drew from(Below.refl w.heap.size w).drew);have HI2:=hid (show∀i,Below w.heap.size w (w.drewN i)from λ i=>below_drewN (Below.refl w.heap.size w) i);clear e p4
  go_enter Tryz.func69,Tryz.ntmps69
  go_upto_region 3 with(fail)
  go_region_held3 (λ W':World=>W'.cell? ⟨sb,0,none⟩=some (.slice (some ⟨b1,o1,none⟩) n c)/\W'.cell? ⟨pb,0,none⟩=some (.pointer (some ⟨tb,0,none⟩)))
   (first|(with_reducible exact aI.out _ hI)|(go_keep;done))
   ((go_at_call 66;(with_reducible refine(aX.out _ (by first|exact HI0.out|exact HI1.out|exact HI2.out _)).mono ?_);rintro e W9 ⟨rfl,hI⟩))
  all_goals
   have HI:=hid hI;clear hI;go_wp2_with fail
   go_ret
   exact⟨rfl,HI.out⟩
theorem Oh {E:Dom}(l:List Sg)(AS:Option Addr)(cS m:Nat)(gs:List Fm)(A:Option Addr)(c n:Nat)(mem:Nat)(x:Int)(w:World)(hm:m=l.length)(hG:ng w E AS cS l)(hn:n=gs.length)(h:bZ w (Cl w) gs A c)(hL:lH gs=true)(hg:GF w)(hk:GK w)
  (hmem:mem<2 ^ n) (hx0:0<=x) (hx1:x<dh l) :
  Calls Tryz.prog 22 #[.slice AS m cS,.slice A n c,.int .i64 (mem:Int),.int .i64 x] w λ e w'=>e = .returned (.int .i64 (rW (kL l x) gs mem:Int))/\Below w.heap.size w w':=by
 have hmf:∀(fn:Fn) (first cap:Array Value) (w:World),(Instr.makeFunc fn first cap).run Tryz.prog w = .ok (.func fn first cap) w := λ _ _ _ _=>rfl;have HG:=hid hG;have HM:=hid hm;have HN:=hid hn;have HA:=hid h;have HL:=hid hL;have yM:=hid hg;have J3:=hid hk;have HME:=hid hmem;have HX:=hid (And.intro hx0 hx1);have PW:n<=8:=by rw[hn];exact(jw hL).1
 have HN8:=hid PW;have HZ:=hid (show rW (kL l x) gs mem=jy ((List.range n).map λ i=>fE (kL l x) (bG gs mem) (iy (gs.getD i default)))by unfold rW;rw[Og,hn]);clear hG hm hn h hL hg hk hmem hx0 hx1 PW
 go_enter Tryz.func22,Tryz.ntmps22
 go_upto_region 1 with(fail)
 refine aC λ U hU=>?_;have HB:=hid (show Below w.heap.size w U by rw[hU];go_grown);have HE:=hid (show U.heap[w.heap.size]?=some (.cells #[.slice A n c] 22 (0,0))by rw[hU];exact at_new _ _ _ rfl);clear hU;have s0:=aj HE.out (i:=0) rfl;have s1:=lt_of_block HE.out;have Ed:=hid (G5 (D:=Cl U) l AS cS m gs A c n mem x U HM.out (HG.out.any HB.out) HN.out (HA.out.aV HB.out) (λ _ h=>h) HL.out (yM.out.below HB.out yM.out.pos) (J3.out.below HB.out J3.out.pos) HME.out HX.out.1 HX.out.2)
 go_upto_region 2 with(go_at_call 64;(with_reducible refine Ed.out.mono ?_);rintro e W1 ⟨tb,V,cv,rfl,htb,hta,hv,hb1⟩;have HTA:=hid (Ac.data hta hv hb1 HM.out HN.out (HG.out.any HB.out) (HA.out.aV HB.out) HL.out HME.out (by rw[HM.out];exact DU HX.out.1 HX.out.2));have HB1:=hid hb1;clear htb hta hv hb1 s0 s1)
 refine aC λ W2 hW2=>?_;have hb2:Below W1.heap.size W1 W2:=by rw[hW2];go_grown
 have hp2:W2.heap[W1.heap.size]?=some (.cells #[.pointer (some ⟨tb,0,none⟩)] 92 (0,0)):=by rw[hW2];exact at_new _ _ _ rfl
 have HB2:=hid (au HB1.out hb2);have HTD:=hid (HTA.out.below hb2);have HP2:=hid hp2;have HE2:=hid ((HB2.out.block _ (lt_of_block HE.out)).trans HE.out);have s0:=aj HE2.out (i:=0) rfl;have s1:=lt_of_block HE2.out;clear hW2 hb2 hp2
 have HMO:=hid (AZ n HN8.out 69 #[.pointer (some ⟨w.heap.size,0,none⟩),.pointer (some ⟨W1.heap.size,0,none⟩)] (λ i=>fE (kL l x) (bG gs mem) (iy (gs.getD i default))) W2 (enters_of Tryz.func69 (by kernel_rfl) rfl) λ i W hi hbw =>
  Wn w.heap.size W1.heap.size i W (HTD.out.below hbw) (aj ((hbw.block _ (lt_of_block HE2.out)).trans HE2.out) (i:=0) rfl) (aj ((hbw.block _ (lt_of_block HP2.out)).trans HP2.out) (i:=0) rfl) hi)
 rw[<-HZ.out]at HMO;go_wp2_with (go_at_call 60;(with_reducible refine HMO.out.mono ?_);rintro e W3 ⟨rfl,hb3⟩;have HB3:=hid hb3;clear hb3)
 go_ret
 exact⟨rfl,au (au HB.out HB2.out) HB3.out⟩
end Go.Proofs.YtdpbgcmfeajigaaGreatDoor
