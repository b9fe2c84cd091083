/-
  Walk of past.changed.
-/
import Derived.Test.YtdpbgcmfeajigaaGreatDoorA29
set_option linter.unusedSimpArgs false
set_option linter.unusedVariables false
set_option maxHeartbeats 8000000
set_option maxRecDepth 100000
namespace Go.Proofs.YtdpbgcmfeajigaaGreatDoor
open Go.RowKit Go.Shelf
attribute [local go_sem] ak run_store_func Oper.semAt_some
structure qdM (fn:Nat) (caps:Array Value) (vb:Fm->Int) (P:Fm->Prop) (w0:World):Prop where
 enter:∀(args:Array Value) (W:World),(callFunc fn args).run Tryz.prog W = .ok (.enter fn args) W
 call:∀(D:Dom) (x:Fm) (b o:Nat) (A:Option Addr) (c:Nat) (W:World),P x->Below w0.heap.size w0 W->dU W D b o x A c ->
  Calls Tryz.prog fn (#[.pointer (some ⟨b,o,none⟩)]++caps) W λ e W'=>e = .returned (.int .i64 (vb x))/\Below W.heap.size W W'
def LZ (fn:Nat)(caps:Array Value)(vb:Fm->Int)(w0:World)(f:Fm):Prop:=∀(D:Dom) (b o:Nat) (A:Option Addr) (c:Nat) (w:World),Below w0.heap.size w0 w->dU w D b o f A c ->
 Calls Tryz.prog 45 #[.pointer (some ⟨b,o,none⟩),.func (.func fn) #[] caps] w λ e w'=>∃v,e = .returned v/\mX (fC vb f) w v w'
theorem U6 {vb:Fm->Int}{l:List Fm}{k:Nat}(h:k<l.length):(l.take (k+1)).map (fC vb)=(l.take k).map (fC vb) ++ [fC vb (l.getD k default)]:=by
 rw[bP l default h,List.map_append];rfl
theorem DC {fn:Nat}{caps:Array Value}{vb:Fm->Int}{P:Fm->Prop}{w0:World}(hV:qdM fn caps vb P w0)(f:Fm)(hP:∀x,x∈aY f->P x)(hz:f.size<=1000000):LZ fn caps vb w0 f:=by
 refine Fm.pW (P := λ f=>(∀x,x∈aY f->P x)->f.size<=1000000->LZ fn caps vb w0 f) ?_ f hP hz;clear hP hz f;intro f ih hP hz D b o A c w hb0 hF;have HV:=hid hV;have HIH:=hid λ g (hg:g∈f.args)=>ih g hg (λ x hx=>hP x (mQ hg hx)) (by have:=gq hg;rw[Fm.size_eq]at hz;omega);have HF:=hid hF.old;have HP:=hid λ h:jV f.op=true=>hP f (qY h);have HB0:=hid hb0;have hal:=hF.args.len.1;have HAS:=hid (show f.args.length<=1000000 by have:=ji f.args;rw[Fm.size_eq]at hz;omega);obtain⟨_,q1,p0,p1,p2,p3,p4,_⟩:=hF;obtain⟨N,hN⟩:∃N,N=f.args.length:=⟨_,rfl⟩;rw[<-hN]at p4 hal;have HN:=hid hN;have HP0:=hid p0;have TL:=hid p4
 have aI:Hid (∀W':World,Below w.heap.size w W'->W'.cell? ⟨b,o,none⟩=some (.int .i64 f.op)/\W'.cell? ⟨b,o+1,none⟩=some (.string f.name)/\W'.cell? ⟨b,o+2,none⟩=some (.int .i64 f.val)/\W'.cell? ⟨b,o+3,none⟩=some (.int .i64 f.bound)):=hid λ W' hb=>by
  have hh:=HF.out.keep (w':=W') (Keeps.of_below hb λ _ h=>h);exact⟨hh.c0,hh.c1,hh.c2,hh.c3⟩
 have hen:=hV.enter;clear hV ih hP hz hb0 hN p0 p1 p2 p3 p4
 go_enter Tryz.func45,Tryz.ntmps45
 go_upto_region 1 with(fail)
 refine aC λ U hU=>?_;have HB:=hid (show Below w.heap.size w U by rw[hU];go_grown);have HR:=hid (show OB U w.heap.size 0 ⟨#[]⟩ 0 0 none 0 0 by show U.heap[_]?=_;rw[hU];exact at_new _ _ _ rfl);have HUS:=hid (show U.heap.size=w.heap.size+1 by rw[hU];simp);clear hU;refine jC (λ W':World=>W'.cell? ⟨b,o,none⟩=some (.int .i64 f.op)/\W'.cell? ⟨b,o+1,none⟩=some (.string f.name)/\W'.cell? ⟨b,o+2,none⟩=some (.int .i64 f.val)/\W'.cell? ⟨b,o+3,none⟩=some (.int .i64 f.bound)) (by kernel_rfl) (by kernel_rfl) (by kernel_rfl) (aI.out _ HB.out.drew) (λ hHeld=>?_);simp only[List.dropLast_cons_cons,List.dropLast_singleton,List.getLast_cons_cons,List.getLast_singleton]
 refine dS 0 ?_ rfl (by kernel_rfl) (λ _ _ _ h=>h) ?_ (by assumption) ?_
 rotate_left
 ·intro w hSw;(try dsimp only at hSw);go_simp;(try(with_reducible rfl))
 try simp only[Act.put,bn,bC,bD]
 refine dS 1 ?_ rfl (by kernel_rfl) (λ _ _ _ h=>h) ?_ (by assumption) ?_
 rotate_left
 ·intro w hSw;(try dsimp only at hSw);go_simp;(try(with_reducible rfl))
 try simp only[Act.put,bn,bC,bD]
 refine dS 2 ?_ rfl (by kernel_rfl) (λ _ _ _ h=>h) ?_ (by assumption) ?_
 rotate_left
 ·intro w hSw;(try dsimp only at hSw);go_simp;(try(with_reducible rfl))
 try simp only[Act.put,bn,bC,bD]
 refine dS 3 ?_ rfl (by kernel_rfl) (λ _ _ _ h=>h) ?_ (by assumption) ?_
 rotate_left
 ·intro w hSw;(try dsimp only at hSw);go_simp;(try(with_reducible rfl))
 try simp only[Act.put,bn,bC,bD]
 refine dS 4 ?_ rfl (by kernel_rfl) (λ _ _ _ h=>h) ?_ (by assumption) ?_
 rotate_left
 ·intro w hSw;(try dsimp only at hSw);go_simp;(try(with_reducible rfl))
 try simp only[Act.put,bn,bC,bD]
 refine dS 5 ?_ rfl (by kernel_rfl) (λ _ _ _ h=>h) ?_ (by assumption) ?_
 rotate_left
 ·intro w hSw;(try dsimp only at hSw);go_simp;(try(with_reducible rfl))
 try simp only[Act.put,bn,bC,bD]
 refine dS 6 ?_ rfl (by kernel_rfl) (λ _ _ _ h=>h) ?_ (by assumption) ?_
 rotate_left
 ·intro w hSw;(try dsimp only at hSw);go_simp;(try(with_reducible rfl))
 try simp only[Act.put,bn,bC,bD]
 refine dS 7 ?_ rfl (by kernel_rfl) (λ _ _ _ h=>h) ?_ (by assumption) ?_
 rotate_left
 ·intro w hSw;(try dsimp only at hSw);go_simp;(try(with_reducible rfl))
 try simp only[Act.put,bn,bC,bD]
 refine dS 8 ?_ rfl (by kernel_rfl) (λ _ _ _ h=>h) ?_ (by assumption) ?_
 rotate_left
 ·intro w hSw;(try dsimp only at hSw);go_simp;(try(with_reducible rfl))
 try simp only[Act.put,bn,bC,bD]
 refine dS 9 ?_ rfl (by kernel_rfl) (λ _ _ _ h=>h) ?_ (by assumption) ?_
 rotate_left
 ·intro w hSw;(try dsimp only at hSw);go_simp;(try(with_reducible rfl))
 try simp only[Act.put,bn,bC,bD]
 refine dS 10 ?_ rfl (by kernel_rfl) (λ _ _ _ h=>h) ?_ (by assumption) ?_
 rotate_left
 ·intro w hSw;(try dsimp only at hSw);go_simp;(try(with_reducible rfl))
 try simp only[Act.put,bn,bC,bD]
 refine dS 11 ?_ rfl (by kernel_rfl) (λ _ _ _ h=>h) ?_ (by assumption) ?_
 rotate_left
 ·intro w hSw;(try dsimp only at hSw);go_simp;(try(with_reducible rfl))
 try simp only[Act.put,bn,bC,bD]
 refine dS 12 ?_ rfl (by kernel_rfl) (λ _ _ _ h=>h) ?_ (by assumption) ?_
 rotate_left
 ·intro w hSw;(try dsimp only at hSw);go_simp;(try(with_reducible rfl))
 try simp only[Act.put,bn,bC,bD]
 refine dS 13 ?_ rfl (by kernel_rfl) (λ _ _ _ h=>h) ?_ (by assumption) ?_
 rotate_left
 ·intro w hSw;(try dsimp only at hSw);go_simp;(try(with_reducible rfl))
 try simp only[Act.put,bn,bC,bD]
 refine dS 14 ?_ rfl (by kernel_rfl) (λ _ _ _ h=>h) ?_ (by assumption) ?_
 rotate_left
 ·intro w hSw;(try dsimp only at hSw);go_simp;(try(with_reducible rfl))
 try simp only[Act.put,bn,bC,bD]
 refine dS 15 ?_ rfl (by kernel_rfl) (λ _ _ _ h=>h) ?_ (by assumption) ?_
 rotate_left
 ·intro w hSw;(try dsimp only at hSw);go_simp;(try(with_reducible rfl))
 try simp only[Act.put,bn,bC,bD]
 refine dS 16 ?_ rfl (by kernel_rfl) (λ _ _ _ h=>h) ?_ (by assumption) ?_
 rotate_left
 ·intro w hSw;(try dsimp only at hSw);go_simp;(try(with_reducible rfl))
 try simp only[Act.put,bn,bC,bD]
 refine lK 17 (by kernel_rfl) rfl λ K hK=>?_
 go_simp
 refine hK.out _ _ ?_ (λ hHeld=>?_)
 ·exact aI.out _ (HB.out.drew.alloc HB.out.size _)
 clear hK K
 try simp only[Act.put,bn,bC,bD]
 refine dR (λ wA hwA hHeld=>?_) hHeld;have FU:OB wA U.heap.size 0 ⟨#[]⟩ 0 0 none 0 0:=by show wA.heap[_]?=_;rw[hwA];exact at_new U.drew _ _ rfl
 have uJ:=hid (show Below U.heap.size U wA by rw[hwA];exact(Below.refl _ _).drew.alloc (Nat.le_refl _) _);obtain⟨z0,z1,z2,z3,z4,z5⟩:=FU.cells;have y0:=FU.free 0;have y1:=FU.free 1;have y2:=FU.free 2;have y3:=FU.free 3;have y4:=FU.free 4;have HOA:=hid FU;clear hwA FU hHeld;refine wpAnyH_done (by kernel_rfl) ?_ _;unfold kZ
 go_simp
 go_upto_region 2 with(fail)
 refine aC λ W1 hW1=>?_;have Mc:=hid (show aH (λ k=>k=U.heap.size) wA W1 by rw[hW1];exact aN _ _ _ _ _ _ _);have HO1:=hid (show OB W1 U.heap.size f.op f.name f.val f.bound none 0 0 by rw[hW1];exact bF HOA.out);have HB1:=hid (show Below w.heap.size w W1 from(au HB.out uJ.out).trans (Mc.out.below (λ k hk h=>by have:=HUS.out;omega) (au HB.out uJ.out).size));have HR1:=hid (show OB W1 w.heap.size 0 ⟨#[]⟩ 0 0 none 0 0 from Mc.out.box (HR.out.below uJ.out) (by have:=HUS.out;omega));have HUT:=hid (show U.heap.size+1<=W1.heap.size from lt_of_block HO1.out);rw[HUS.out]at HO1 HUT⊢;clear hW1 z0 z1 z2 z3 z4 z5 y0 y1 y2 y3 y4;have p0:=(HB1.out.cell (p:=⟨b,o,none⟩) q1).trans HP0.out
 have q2:=Nat.lt_of_lt_of_le q1 HB1.out.size;have MJ:=hid (oM f.op W1);obtain⟨rm,hrm⟩:∃r,jV f.op=r:=⟨_,rfl⟩;have HRM:=hid hrm;rw[hrm]at MJ;clear hrm;have X7:=hid (show rm=true->vb f=(fC vb f).val from λ h=>by rw[qI,HRM.out,h];rfl);have qcl:=hid (show rm=false->f.val=(fC vb f).val from λ h=>by rw[qI,HRM.out,h];rfl);obtain⟨vz,hvz⟩:∃z,(fC vb f).val=z:=⟨_,rfl⟩;have HVZ:=hid hvz;rw[hvz]at X7 qcl;have HPRM:=hid (show rm=true->P f from λ h=>HP.out (HRM.out.trans h));clear hvz;cases rm
 all_goals
  go_upto_region 4 with(go_at_call 91;(with_reducible refine MJ.out.mono ?_);rintro e W9 ⟨rfl,rfl⟩)
 rotate_left
 refine(HV.out.call _ f b o A c W9 (HPRM.out (by trivial)) (HB0.out.trans (HB1.out.mono HB0.out.size)) (HF.out.keep (Keeps.of_below HB1.out λ _ h=>h))).mono ?_;rintro e W3 ⟨rfl,hb3⟩;have XP:=hid (HO1.out.below hb3);have HB3:=hid (au HB1.out hb3);have HR3:=hid (HR1.out.below hb3);have f2:=XP.out.free 2;have g2:=XP.out.cells.2.2.1;have g5:=lt_of_block XP.out;rw[X7.out (by trivial)];clear hb3 p0 q2;go_upto_region 4 with(fail)
 refine aC λ W4 Ej=>?_;have zN:=hid (show aH (λ k=>k=w.heap.size+1) W3 W4 by rw[Ej];exact(aH.refl (λ k=>k=w.heap.size+1) W3).set ⟨w.heap.size+1,2,none⟩ _ λ _=>rfl);have UQ:=hid (show OB W4 (w.heap.size+1) f.op f.name vz f.bound none 0 0 by rw[Ej];unfold OB;rw[aB XP.out];rfl);have HB4:=hid (HB3.out.trans (zN.out.below (λ k hk h=>by omega) HB3.out.size));have HR4:=hid (show OB W4 w.heap.size 0 ⟨#[]⟩ 0 0 none 0 0 from zN.out.box HR3.out (by omega));clear Ej f2 g2 g5
 rotate_left
 have UQ:=hid (show OB W9 (w.heap.size+1) f.op f.name vz f.bound none 0 0 by rw[<-qcl.out (by trivial)];exact HO1.out);have HB4:=hid HB1.out;have HR4:=hid HR1.out;clear p0 q2;obtain⟨W4,Ej⟩:∃W4,W4=W9:=⟨_,rfl⟩;rw[<-Ej]at UQ HB4 HR4⊢;clear Ej
 all_goals
  have y4:=(HB4.out.cell (p:=⟨b,o+4,none⟩) q1).trans TL.out;have y5:=Nat.lt_of_lt_of_le q1 HB4.out.size;go_wp2_with fail
  clear y4 y5
  go_loopw [38] (λ r wr=>∃(k:Nat) (X:Option Addr) (cx:Nat) (R:List Fm) (sl:List (Option Addr×Nat)),k<=N/\r = .int .i64 (k:Int)/\Hid (R=(f.args.take k).map (fC vb))/\Hid (R.length=k)/\bT wr (w.heap.size+2) X cx R sl/\OB wr (w.heap.size+1) f.op f.name vz f.bound X k cx/\OB wr w.heap.size 0 ⟨#[]⟩ 0 0 none 0 0/\Below w.heap.size w wr) (λ r _=>N-(intOf r).toNat)
  case atStart=>exact⟨0,none,0,[],[],Nat.zero_le _,rfl,rfl,rfl,bT.nil _ _,UQ.out,HR4.out,HB4.out⟩
  case round =>
   obtain⟨k,X,cx,R,sl,hk,rfl,Iu,pK,hfr,hob,hrb,hbl⟩:=hrel;have MB:=hid hfr;have HOB:=hid hob;have wI:=hid hrb;have bH:=hid hbl;clear hfr hob hrb hbl
   by_cases hlt:k<N
   ·have hii:(k:Int)<(N:Int):=by omega
    have hi0:(0:Int)<=(k:Int):=by omega
    have hlf:k<f.args.length:=by rw[<-HN.out];exact hlt
    obtain⟨b1,o1,A',c',g,rfl,HX,hg⟩:=(HF.out.keep (Keeps.of_below bH.out λ _ h=>h)).args.get hlf;have UJ:=hid (show g∈f.args by rw[<-HX.out];exact dA hlf);have Ed:=hid (show(f.args.take (k+1)).map (fC vb)=R ++ [fC vb g]by rw[U6 hlf,HX.out,Iu.out]);have HG:=hid hg;have dX:=hid hlt;obtain⟨g',hg'⟩:∃g',fC vb g=g':=⟨_,rfl⟩;have HG':=hid hg';rw[hg']at Ed
    have Qn:Hid (∀W':World,Below wr.heap.size wr W'->W'.cell? ⟨w.heap.size+1,4,none⟩=some (.slice X k cx)/\W'.cell? ⟨b,o+4,none⟩=some (.slice (some ⟨b1,o1,none⟩) N c)):=hid λ W' hb =>
     ⟨(HOB.out.below hb).cells.2.2.2.2.1,((au bH.out hb).cell (p:=⟨b,o+4,none⟩) q1).trans TL.out⟩
    have aX:Hid (∀W,Below wr.heap.size wr W->Calls Tryz.prog 45 #[.pointer (some ⟨b1,o1+k*5,none⟩),.func (.func fn) #[] caps] W λ e w'=>∃A2 c2,e = .returned (.agg #[.int .i64 g'.op,.string g'.name,.int .i64 g'.val,.int .i64 g'.bound,.slice A2 g'.args.length c2])/\bZ w' (Nw wr.heap.size w') g'.args A2 c2/\Below wr.heap.size wr w'):=hid λ W hb=>by
     refine(HIH.out g UJ.out _ b1 (o1+k*5) A' c' W (HB0.out.trans ((au bH.out hb).mono HB0.out.size)) (HG.out.keep (Keeps.of_below hb λ k hk=>Nat.lt_of_lt_of_le hk bH.out.size))).mono ?_;rintro e w' ⟨v,rfl,hb',A2,c2,rfl,ha2⟩;rw[HG'.out]at ha2⊢;exact⟨A2,c2,rfl,ha2.base hb.size,au hb hb'⟩
    clear hk hlf hlt HX hg hg';have q5:=Nat.lt_of_lt_of_le q1 bH.out.size;have q6:=lt_of_block HOB.out;obtain⟨y1,y4⟩:=Qn.out wr (Below.refl _ _);obtain⟨i0,hti,hz0,hz1,hz2⟩:=info_parts je;go_upto_region 7 with(fail)
    refine jC (λ W':World=>W'.cell? ⟨w.heap.size+1,4,none⟩=some (.slice X k cx)/\W'.cell? ⟨b,o+4,none⟩=some (.slice (some ⟨b1,o1,none⟩) N c)) (by kernel_rfl) (by kernel_rfl) (by kernel_rfl) ⟨y1,y4⟩ (λ hHeld=>?_);simp only[List.dropLast_cons_cons,List.dropLast_singleton,List.getLast_cons_cons,List.getLast_singleton];refine dS 0 ?_ rfl (by kernel_rfl) (λ _ _ _ h=>h) ?_ (by assumption) ?_
    rotate_left
    ·intro w hSw;(try dsimp only at hSw);go_simp;(try(with_reducible rfl))
    try simp only[Act.put,bn,bC,bD]
    refine dS 1 ?_ rfl (by kernel_rfl) (λ _ _ _ h=>h) ?_ (by assumption) ?_
    rotate_left
    ·intro w hSw;(try dsimp only at hSw);go_simp;(try(with_reducible rfl))
    try simp only[Act.put,bn,bC,bD]
    refine dS 2 ?_ rfl (by kernel_rfl) (λ _ _ _ h=>h) ?_ (by assumption) ?_
    rotate_left
    ·intro w hSw;(try dsimp only at hSw);go_simp;(try(with_reducible rfl))
    try simp only[Act.put,bn,bC,bD]
    refine dS 3 ?_ rfl (by kernel_rfl) (λ _ _ _ h=>h) ?_ (by assumption) ?_
    rotate_left
    ·intro w hSw;(try dsimp only at hSw);go_simp;(try(with_reducible rfl))
    try simp only[Act.put,bn,bC,bD]
    refine dS 4 ?_ rfl (by kernel_rfl) (λ _ _ _ h=>h) ?_ (by assumption) ?_
    rotate_left
    ·intro w hSw;(try dsimp only at hSw);go_simp;(try(with_reducible rfl))
    try simp only[Act.put,bn,bC,bD]
    refine dS 5 ?_ rfl (by kernel_rfl) (λ _ _ _ h=>h) ?_ (by assumption) ?_
    rotate_left
    ·intro w hSw;(try dsimp only at hSw);go_simp;(try(with_reducible rfl))
    try simp only[Act.put,bn,bC,bD]
    refine dS 6 ?_ rfl (by kernel_rfl) (λ _ _ _ h=>h) ?_ (by assumption) ?_
    rotate_left
    ·intro w hSw;(try dsimp only at hSw);go_simp;(try(with_reducible rfl))
    try simp only[Act.put,bn,bC,bD]
    refine dS 7 ?_ rfl (by kernel_rfl) (λ _ _ _ h=>h) ?_ (by assumption) ?_
    rotate_left
    ·intro w hSw;(try dsimp only at hSw);go_simp;(try(with_reducible rfl))
    try simp only[Act.put,bn,bC,bD]
    refine dS 8 ?_ rfl (by kernel_rfl) (λ _ _ _ h=>h) ?_ (by assumption) ?_
    rotate_left
    ·intro w hSw;(try dsimp only at hSw);go_simp;(try(with_reducible rfl))
    try simp only[Act.put,bn,bC,bD]
    refine lK 9 (by kernel_rfl) rfl λ K hK=>?_
    go_simp
    (go_at_call 45;(with_reducible refine(aX.out _ ?_).mono ?_);exact(Below.refl _ _).drew;rintro e V1 ⟨A2,c2,rfl,ha2,hb1⟩;have sH:=hid hb1;have HA2:=hid ha2;clear hb1 ha2)
    go_wp2_with fail
    refine hK.out _ _ ?_ (λ hHeld=>?_)
    ·exact Qn.out _ sH.out
    clear hK K
    try simp only[Act.put,bn,bC,bD]
    refine lK 10 (by kernel_rfl) rfl λ K hK=>?_
    go_simp
    refine hK.out _ _ ?_ (λ hHeld=>?_)
    ·exact Qn.out _ (sH.out.alloc sH.out.size _)
    clear hK K
    try simp only[Act.put,bn,bC,bD]
    refine dR (λ wA hwA hHeld=>?_) hHeld;have LY:Below V1.heap.size V1 wA:=by rw[hwA];exact(Below.refl _ _).alloc (Nat.le_refl _) _
    have VJ:Rd wA aW 5 (some ⟨V1.heap.size,0,none⟩) 1 1 (fH g' (A2,c2)):=by rw[hwA];exact Rd.fresh (D:=aW) rfl trivial (by simp) (by omega)
    have uJ:=hid (au sH.out LY);have pJ:=hid (show bZ wA (Nw wr.heap.size wA) g'.args A2 c2 from((HA2.out.mono (E := λ k=>Nw wr.heap.size V1 k/\k<V1.heap.size) λ k hk hl=>⟨hk,hl⟩).keep (Keeps.of_below LY λ _ h=>h.2)).mono λ k hk _=>⟨hk.1.1,hk.1.2.of_eq (LY.block k hk.2)⟩);have hfA:=MB.out.eu (aH.aS (V := λ _=>False) uJ.out) λ _ h=>h.elim;have FU:=hfA.own;rw[pK.out]at FU;have HFA:=hid hfA;clear hwA LY hfA;refine lK 11 (by kernel_rfl) rfl λ K hK=>?_
    refine dG _ (by rfl) _ _ 22 (by rfl) (w.heap.size+2) 24 i0 _ 5 64 Tryz.underlying22 hti hz0 hz1 hz2 rfl (by omega) (.slice X k cx) k _ (by rfl) FU _ (some ⟨V1.heap.size,0,none⟩) 1 1 _ (by rfl) VJ (by simp[Value.oneCell',fH]) (by have:=dX.out;have:=HAS.out;have:=HN.out;omega) (dJ (by have:=dX.out;have:=HAS.out;have:=HN.out;omega)) (by have:=uJ.out.size;omega) ?_;intro A7 c7 w7 rQ vV Au
    have hge:∀k',(Value.slice X k cx).ownBlock=some k'->w.heap.size+2<=k'/\k'<wr.heap.size := λ k' hk'=>by
     have:=MB.out.ge (k:=k') (by rw[pK.out];exact hk');exact this
    have hk7:∀b',b'<wA.heap.size->b'<w.heap.size+2->w7.heap[b']?=wA.heap[b']? := λ b' h1 h2=>vV.block b' h1 (λ e=>by have:=(hge _ e.symm).1;omega);have hcf:bQ [g'] [(A2,c2)]=fH g' (A2,c2):=by simp[bQ]
    have Xo:bT w7 (w.heap.size+2) A7 c7 (R ++ [g']) (sl ++ [(A2,c2)]):=by
     refine bT.app (n:=k+1) HFA.out (by rw[pK.out];exact vV) (by rw[List.length_append,pK.out];rfl) (by rw[hcf];exact rQ) (by rw[pK.out];exact Au) rfl λ i hi=>?_;have hi0:i=0:=by simpa using hi
     subst hi0;refine pJ.out.mono λ k' hk' hl'=>⟨⟨by have:=hk'.1;omega,hk'.2⟩,λ e=>?_⟩;rw[pK.out]at e;have:=(hge _ e).2;have:=hk'.1;omega
    have Jg:OB w7 (w.heap.size+1) f.op f.name vz f.bound X k cx:=(hk7 _ (Nat.lt_of_lt_of_le q6 uJ.out.size) (by omega)).trans (HOB.out.below uJ.out);have hR7:OB w7 w.heap.size 0 ⟨#[]⟩ 0 0 none 0 0:=(hk7 _ (Nat.lt_of_lt_of_le (by omega) uJ.out.size) (by omega)).trans (wI.out.below uJ.out);have zh:=hid (show Below w.heap.size w w7 from(au bH.out uJ.out).trans ⟨vV.os,vV.tape,vV.output,vV.size,λ b' hb'=>hk7 b' (Nat.lt_of_lt_of_le hb' (au bH.out uJ.out).size) (by omega)⟩);refine hK.out _ _ ?_ (λ hHeld=>?_)
    ·exact⟨Jg.cells.2.2.2.2.1,(zh.out.cell (p:=⟨b,o+4,none⟩) q1).trans TL.out⟩
    clear hK K
    try simp only[Act.put,bn,bC,bD]
    refine dS 12 ?_ rfl (by kernel_rfl) (λ _ _ _ h=>h) ?_ (by assumption) ?_
    rotate_left
    ·intro w hSw;(try dsimp only at hSw);go_simp;(try(with_reducible rfl))
    try simp only[Act.put,bn,bC,bD]
    have HO7:=hid Jg;have HR7:=hid hR7;have HF7:=hid Xo;have f7:=Jg.free 4;have l7:=lt_of_block Jg;have c9:=Jg.cells.2.2.2.2.1;clear Jg hR7 Xo rQ vV hk7 Au hHeld FU VJ hge y1 y4 q5;refine wpAnyH_done (by kernel_rfl) ?_ _;unfold kZ
    go_simp
    go_wp2_with fail
    go_roundw
    case rel =>
     obtain⟨w8,hw8⟩:∃w8,w8=w7.setCell ⟨w.heap.size+1,4,none⟩ (.slice A7 (k+1) c7):=⟨_,rfl⟩;have Rk:aH (λ b=>b=w.heap.size+1) w7 w8:=by rw[hw8];exact(aH.refl (λ b=>b=w.heap.size+1) w7).set ⟨w.heap.size+1,4,none⟩ _ λ _=>rfl
     rw[<-hw8];refine⟨k+1,A7,c7,R ++ [g'],sl ++ [(A2,c2)],by have:=dX.out;omega,by go_num,Ed.out.symm,by show(R ++ [g']).length=_;rw[List.length_append,pK.out];rfl,HF7.out.eu Rk (λ x hx=>by have hx':x=w.heap.size+1:=hx;omega),?_,Rk.box HR7.out (by show¬w.heap.size=w.heap.size+1;omega),zh.out.trans (Rk.below (λ b hb h=>by have h':b=w.heap.size+1:=h;omega) zh.out.size)⟩;unfold OB;rw[hw8,aB HO7.out];rfl
    case measure=>have:=dX.out;simp[intOf];omega
   ·have hii:¬(k:Int)<(N:Int):=by omega
    obtain rfl:k=N:=by omega
    have J5:=hid (show R=f.args.map (fC vb)by rw[Iu.out,HN.out,List.take_length]);obtain⟨z0,z1,z2,z3,z4,z5⟩:=wI.out.cells;have p0:=wI.out.free 0;have p1:=wI.out.free 1;have p2:=wI.out.free 2;have p3:=wI.out.free 3;have p4:=wI.out.free 4;obtain⟨x0,x1,x2,x3,x4,x5⟩:=HOB.out.cells;clear hk hlt;go_wp2_with fail
    refine aK λ W9 yh=>?_;have hO9:OB W9 w.heap.size f.op f.name vz f.bound X k cx:=by rw[yh];exact bF wI.out
    have Vy:aH (λ x=>x=w.heap.size) wr W9:=by rw[yh];exact aN _ _ _ _ _ _ _
    clear yh p0 p1 p2 p3 p4 z0 z1 z2 z3 z4 z5 x0 x1 x2 x3 x4 x5;obtain⟨r0,r1,r2,r3,r4,r5⟩:=hO9.cells;refine bodyPost_ret (v := .agg #[.int .i64 f.op,.string f.name,.int .i64 vz,.int .i64 f.bound,.slice X k cx]) (by simp[results,Tryz.results45,go_sem,r0,r1,r2,r3,r4]) rfl ⟨_,rfl,bH.out.trans (Vy.below (B:=w.heap.size) (λ x hx hv=>by have hv':x=w.heap.size:=hv;omega) bH.out.size),X,cx,?_,?_⟩
    ·rw[kD,xO,HVZ.out,zo,jW,List.length_map,<-HN.out]
    ·rw[jW,<-J5.out]
     have hrd:=(MB.out.eu Vy (λ x hx=>by have hx':x=w.heap.size:=hx;omega)).rd (by have:=pK.out;have:=HAS.out;have:=HN.out;omega);exact hrd.base (by omega)
end Go.Proofs.YtdpbgcmfeajigaaGreatDoor
