/-
  Walk of past.changed.
-/
import Derived.Test.YtdpbgcmfeajigaaGreatDoorT29
set_option linter.unusedSimpArgs false
set_option linter.unusedVariables false
set_option maxHeartbeats 8000000
set_option maxRecDepth 100000
namespace Go.Proofs.YtdpbgcmfeajigaaGreatDoor
open Go.RowKit Go.Shelf
attribute [local go_sem] ak run_store_func Oper.semAt_some
structure qcF (fn:Nat) (caps:Array Value) (vb:Fm->Int) (P:Fm->Prop) (w0:World):Prop where
 enter:∀(args:Array Value) (W:World),(callFunc fn args).run Tryz.prog W = .ok (.enter fn args) W
 call:∀(D:Dom) (x:Fm) (b o:Nat) (A:Option Addr) (c:Nat) (W:World),P x->Below w0.heap.size w0 W->dR W D b o x A c ->
  Calls Tryz.prog fn (#[.pointer (some ⟨b,o,none⟩)]++caps) W fun e W'=>e = .returned (.int .i64 (vb x))/\Below W.heap.size W W'
def LD (fn:Nat)(caps:Array Value)(vb:Fm->Int)(w0:World)(f:Fm):Prop:=∀(D:Dom) (b o:Nat) (A:Option Addr) (c:Nat) (w:World),Below w0.heap.size w0 w->dR w D b o f A c ->
 Calls Tryz.prog 45 #[.pointer (some ⟨b,o,none⟩),.func (.func fn) #[] caps] w fun e w'=>∃v,e = .returned v/\lY (iq vb f) w v w'
theorem Iz {vb:Fm->Int}{l:List Fm}{k:Nat}(h:k<l.length):(l.take (k+1)).map (iq vb)=(l.take k).map (iq vb) ++ [iq vb (l.getD k default)]:=by
 rw[aU l default h,List.map_append];rfl
theorem Dx {fn:Nat}{caps:Array Value}{vb:Fm->Int}{P:Fm->Prop}{w0:World}(hV:qcF fn caps vb P w0)(f:Fm)(hP:∀x,x∈aX f->P x)(hz:f.size<=1000000):LD fn caps vb w0 f:=by
 refine Fm.tV (P:=fun f=>(∀x,x∈aX f->P x)->f.size<=1000000->LD fn caps vb w0 f) ?_ f hP hz;clear hP hz f;intro f ih hP hz D b o A c w hb0 hF;have HV:=hid hV;have HIH:=hid fun g (hg:g∈f.args)=>ih g hg (fun x hx=>hP x (qE hg hx)) (by have:=gB hg;rw[Fm.size_eq]at hz;omega);have HF:=hid hF.old;have HP:=hid fun h:kX f.op=true=>hP f (zA h);have HB0:=hid hb0;have hal:=hF.args.len.1;have HAS:=hid (show f.args.length<=1000000 by have:=jg f.args;rw[Fm.size_eq]at hz;omega);obtain⟨_,q1,p0,p1,p2,p3,p4,_⟩:=hF;obtain⟨N,hN⟩:∃N,N=f.args.length:=⟨_,rfl⟩;rw[<-hN]at p4 hal;have HN:=hid hN;have HP0:=hid p0;have LU:=hid p4
 have aI:Hid (∀W':World,Below w.heap.size w W'->W'.cell? ⟨b,o,none⟩=some (.int .i64 f.op)/\W'.cell? ⟨b,o+1,none⟩=some (.string f.name)/\W'.cell? ⟨b,o+2,none⟩=some (.int .i64 f.val)/\W'.cell? ⟨b,o+3,none⟩=some (.int .i64 f.bound)):=hid fun W' hb=>by
  have hh:=HF.out.keep (w':=W') (Keeps.of_below hb fun _ h=>h);exact⟨hh.c0,hh.c1,hh.c2,hh.c3⟩
 have hen:=hV.enter;clear hV ih hP hz hb0 hN p0 p1 p2 p3 p4
 go_enter Tryz.func45,Tryz.ntmps45
 go_upto_region 1 with(fail)
 refine aF fun U hU=>?_;have HB:=hid (show Below w.heap.size w U by rw[hU];go_grown);have HR:=hid (show OB U w.heap.size 0 ⟨#[]⟩ 0 0 none 0 0 by show U.heap[_]?=_;rw[hU];exact at_new _ _ _ rfl);have HUS:=hid (show U.heap.size=w.heap.size+1 by rw[hU];simp);clear hU;refine iL (fun W':World=>W'.cell? ⟨b,o,none⟩=some (.int .i64 f.op)/\W'.cell? ⟨b,o+1,none⟩=some (.string f.name)/\W'.cell? ⟨b,o+2,none⟩=some (.int .i64 f.val)/\W'.cell? ⟨b,o+3,none⟩=some (.int .i64 f.bound)) (by kernel_rfl) (by kernel_rfl) (by kernel_rfl) (aI.out _ HB.out.drew) (fun hHeld=>?_);simp only[List.dropLast_cons_cons,List.dropLast_singleton,List.getLast_cons_cons,List.getLast_singleton]
 refine fH 0 ?_ rfl (by kernel_rfl) (fun _ _ _ h=>h) ?_ (by assumption) ?_
 rotate_left
 ·intro w hSw;(try dsimp only at hSw);go_simp;(try(with_reducible rfl))
 try simp only[Act.put,bf,bn,bC]
 refine fH 1 ?_ rfl (by kernel_rfl) (fun _ _ _ h=>h) ?_ (by assumption) ?_
 rotate_left
 ·intro w hSw;(try dsimp only at hSw);go_simp;(try(with_reducible rfl))
 try simp only[Act.put,bf,bn,bC]
 refine fH 2 ?_ rfl (by kernel_rfl) (fun _ _ _ h=>h) ?_ (by assumption) ?_
 rotate_left
 ·intro w hSw;(try dsimp only at hSw);go_simp;(try(with_reducible rfl))
 try simp only[Act.put,bf,bn,bC]
 refine fH 3 ?_ rfl (by kernel_rfl) (fun _ _ _ h=>h) ?_ (by assumption) ?_
 rotate_left
 ·intro w hSw;(try dsimp only at hSw);go_simp;(try(with_reducible rfl))
 try simp only[Act.put,bf,bn,bC]
 refine fH 4 ?_ rfl (by kernel_rfl) (fun _ _ _ h=>h) ?_ (by assumption) ?_
 rotate_left
 ·intro w hSw;(try dsimp only at hSw);go_simp;(try(with_reducible rfl))
 try simp only[Act.put,bf,bn,bC]
 refine fH 5 ?_ rfl (by kernel_rfl) (fun _ _ _ h=>h) ?_ (by assumption) ?_
 rotate_left
 ·intro w hSw;(try dsimp only at hSw);go_simp;(try(with_reducible rfl))
 try simp only[Act.put,bf,bn,bC]
 refine fH 6 ?_ rfl (by kernel_rfl) (fun _ _ _ h=>h) ?_ (by assumption) ?_
 rotate_left
 ·intro w hSw;(try dsimp only at hSw);go_simp;(try(with_reducible rfl))
 try simp only[Act.put,bf,bn,bC]
 refine fH 7 ?_ rfl (by kernel_rfl) (fun _ _ _ h=>h) ?_ (by assumption) ?_
 rotate_left
 ·intro w hSw;(try dsimp only at hSw);go_simp;(try(with_reducible rfl))
 try simp only[Act.put,bf,bn,bC]
 refine fH 8 ?_ rfl (by kernel_rfl) (fun _ _ _ h=>h) ?_ (by assumption) ?_
 rotate_left
 ·intro w hSw;(try dsimp only at hSw);go_simp;(try(with_reducible rfl))
 try simp only[Act.put,bf,bn,bC]
 refine fH 9 ?_ rfl (by kernel_rfl) (fun _ _ _ h=>h) ?_ (by assumption) ?_
 rotate_left
 ·intro w hSw;(try dsimp only at hSw);go_simp;(try(with_reducible rfl))
 try simp only[Act.put,bf,bn,bC]
 refine fH 10 ?_ rfl (by kernel_rfl) (fun _ _ _ h=>h) ?_ (by assumption) ?_
 rotate_left
 ·intro w hSw;(try dsimp only at hSw);go_simp;(try(with_reducible rfl))
 try simp only[Act.put,bf,bn,bC]
 refine fH 11 ?_ rfl (by kernel_rfl) (fun _ _ _ h=>h) ?_ (by assumption) ?_
 rotate_left
 ·intro w hSw;(try dsimp only at hSw);go_simp;(try(with_reducible rfl))
 try simp only[Act.put,bf,bn,bC]
 refine fH 12 ?_ rfl (by kernel_rfl) (fun _ _ _ h=>h) ?_ (by assumption) ?_
 rotate_left
 ·intro w hSw;(try dsimp only at hSw);go_simp;(try(with_reducible rfl))
 try simp only[Act.put,bf,bn,bC]
 refine fH 13 ?_ rfl (by kernel_rfl) (fun _ _ _ h=>h) ?_ (by assumption) ?_
 rotate_left
 ·intro w hSw;(try dsimp only at hSw);go_simp;(try(with_reducible rfl))
 try simp only[Act.put,bf,bn,bC]
 refine fH 14 ?_ rfl (by kernel_rfl) (fun _ _ _ h=>h) ?_ (by assumption) ?_
 rotate_left
 ·intro w hSw;(try dsimp only at hSw);go_simp;(try(with_reducible rfl))
 try simp only[Act.put,bf,bn,bC]
 refine fH 15 ?_ rfl (by kernel_rfl) (fun _ _ _ h=>h) ?_ (by assumption) ?_
 rotate_left
 ·intro w hSw;(try dsimp only at hSw);go_simp;(try(with_reducible rfl))
 try simp only[Act.put,bf,bn,bC]
 refine fH 16 ?_ rfl (by kernel_rfl) (fun _ _ _ h=>h) ?_ (by assumption) ?_
 rotate_left
 ·intro w hSw;(try dsimp only at hSw);go_simp;(try(with_reducible rfl))
 try simp only[Act.put,bf,bn,bC]
 refine lX 17 (by kernel_rfl) rfl fun K hK=>?_
 go_simp
 refine hK.out _ _ ?_ (fun hHeld=>?_)
 ·exact aI.out _ (HB.out.drew.alloc HB.out.size _)
 clear hK K
 try simp only[Act.put,bf,bn,bC]
 refine dM (fun wA hwA hHeld=>?_) hHeld;have Cb:OB wA U.heap.size 0 ⟨#[]⟩ 0 0 none 0 0:=by show wA.heap[_]?=_;rw[hwA];exact at_new U.drew _ _ rfl
 have pX:=hid (show Below U.heap.size U wA by rw[hwA];exact(Below.refl _ _).drew.alloc (Nat.le_refl _) _);obtain⟨z0,z1,z2,z3,z4,z5⟩:=Cb.cells;have y0:=Cb.free 0;have y1:=Cb.free 1;have y2:=Cb.free 2;have y3:=Cb.free 3;have y4:=Cb.free 4;have HOA:=hid Cb;clear hwA Cb hHeld;refine wpAnyH_done (by kernel_rfl) ?_ _;unfold jX
 go_simp
 go_upto_region 2 with(fail)
 refine aF fun W1 hW1=>?_;have JU:=hid (show aH (fun k=>k=U.heap.size) wA W1 by rw[hW1];exact aN _ _ _ _ _ _ _);have HO1:=hid (show OB W1 U.heap.size f.op f.name f.val f.bound none 0 0 by rw[hW1];exact bF HOA.out);have HB1:=hid (show Below w.heap.size w W1 from(au HB.out pX.out).trans (JU.out.below (fun k hk h=>by have:=HUS.out;omega) (au HB.out pX.out).size));have HR1:=hid (show OB W1 w.heap.size 0 ⟨#[]⟩ 0 0 none 0 0 from JU.out.box (HR.out.below pX.out) (by have:=HUS.out;omega));have HUT:=hid (show U.heap.size+1<=W1.heap.size from lt_of_block HO1.out);rw[HUS.out]at HO1 HUT⊢;clear hW1 z0 z1 z2 z3 z4 z5 y0 y1 y2 y3 y4;have p0:=(HB1.out.cell (p:=⟨b,o,none⟩) q1).trans HP0.out
 have q2:=Nat.lt_of_lt_of_le q1 HB1.out.size;have LV:=hid (oJ f.op W1);obtain⟨rm,hrm⟩:∃r,kX f.op=r:=⟨_,rfl⟩;have HRM:=hid hrm;rw[hrm]at LV;clear hrm;have Xe:=hid (show rm=true->vb f=(iq vb f).val from fun h=>by rw[LZ,HRM.out,h];rfl);have qbp:=hid (show rm=false->f.val=(iq vb f).val from fun h=>by rw[LZ,HRM.out,h];rfl);obtain⟨vz,hvz⟩:∃z,(iq vb f).val=z:=⟨_,rfl⟩;have HVZ:=hid hvz;rw[hvz]at Xe qbp;have HPRM:=hid (show rm=true->P f from fun h=>HP.out (HRM.out.trans h));clear hvz;cases rm
 all_goals
  go_upto_region 4 with(go_at_call 91;(with_reducible refine LV.out.mono ?_);rintro e W9 ⟨rfl,rfl⟩)
 rotate_left
 ·refine(HV.out.call _ f b o A c W9 (HPRM.out (by trivial)) (HB0.out.trans (HB1.out.mono HB0.out.size)) (HF.out.keep (Keeps.of_below HB1.out fun _ h=>h))).mono ?_
  rintro e W3 ⟨rfl,hb3⟩;have WT:=hid (HO1.out.below hb3);have HB3:=hid (au HB1.out hb3);have HR3:=hid (HR1.out.below hb3);have f2:=WT.out.free 2;have g2:=WT.out.cells.2.2.1;have g5:=lt_of_block WT.out;rw[Xe.out (by trivial)];clear hb3 p0 q2;go_upto_region 4 with(fail)
  refine aF fun W4 Ef=>?_;have Bo:=hid (show aH (fun k=>k=w.heap.size+1) W3 W4 by rw[Ef];exact(aH.refl (fun k=>k=w.heap.size+1) W3).set ⟨w.heap.size+1,2,none⟩ _ fun _=>rfl);have SE:=hid (show OB W4 (w.heap.size+1) f.op f.name vz f.bound none 0 0 by rw[Ef];unfold OB;rw[aB WT.out];rfl);have HB4:=hid (HB3.out.trans (Bo.out.below (fun k hk h=>by omega) HB3.out.size));have HR4:=hid (show OB W4 w.heap.size 0 ⟨#[]⟩ 0 0 none 0 0 from Bo.out.box HR3.out (by omega));clear Ef f2 g2 g5;have y4:=(HB4.out.cell (p:=⟨b,o+4,none⟩) q1).trans LU.out;have y5:=Nat.lt_of_lt_of_le q1 HB4.out.size;go_wp2_with fail
  clear y4 y5
  go_loopw [38] (fun r wr=>∃(k:Nat) (X:Option Addr) (cx:Nat) (R:List Fm) (sl:List (Option Addr×Nat)),k<=N/\r = .int .i64 (k:Int)/\Hid (R=(f.args.take k).map (iq vb))/\Hid (R.length=k)/\bT wr (w.heap.size+2) X cx R sl/\OB wr (w.heap.size+1) f.op f.name vz f.bound X k cx/\OB wr w.heap.size 0 ⟨#[]⟩ 0 0 none 0 0/\Below w.heap.size w wr) (fun r _=>N-(intOf r).toNat)
  case atStart=>exact⟨0,none,0,[],[],Nat.zero_le _,rfl,rfl,rfl,bT.nil _ _,SE.out,HR4.out,HB4.out⟩
  case round =>
   obtain⟨k,X,cx,R,sl,hk,rfl,ET,ny,hfr,hob,hrb,hbl⟩:=hrel;have Hl:=hid hfr;have PN:=hid hob;have sJ:=hid hrb;have bJ:=hid hbl;clear hfr hob hrb hbl
   by_cases hlt:k<N
   ·have hii:(k:Int)<(N:Int):=by omega
    have hi0:(0:Int)<=(k:Int):=by omega
    have hlf:k<f.args.length:=by rw[<-HN.out];exact hlt
    obtain⟨b1,o1,A',c',g,rfl,HX,hg⟩:=(HF.out.keep (Keeps.of_below bJ.out fun _ h=>h)).args.get hlf;have PL:=hid (show g∈f.args by rw[<-HX.out];exact cO hlf);have Eb:=hid (show(f.args.take (k+1)).map (iq vb)=R ++ [iq vb g]by rw[Iz hlf,HX.out,ET.out]);have HG:=hid hg;have dY:=hid hlt;obtain⟨g',hg'⟩:∃g',iq vb g=g':=⟨_,rfl⟩;have HG':=hid hg';rw[hg']at Eb
    have yX:Hid (∀W':World,Below wr.heap.size wr W'->W'.cell? ⟨w.heap.size+1,4,none⟩=some (.slice X k cx)/\W'.cell? ⟨b,o+4,none⟩=some (.slice (some ⟨b1,o1,none⟩) N c)):=hid fun W' hb =>
     ⟨(PN.out.below hb).cells.2.2.2.2.1,((au bJ.out hb).cell (p:=⟨b,o+4,none⟩) q1).trans LU.out⟩
    have aO:Hid (∀W,Below wr.heap.size wr W->Calls Tryz.prog 45 #[.pointer (some ⟨b1,o1+k*5,none⟩),.func (.func fn) #[] caps] W fun e w'=>∃A2 c2,e = .returned (.agg #[.int .i64 g'.op,.string g'.name,.int .i64 g'.val,.int .i64 g'.bound,.slice A2 g'.args.length c2])/\bV w' (Nw wr.heap.size w') g'.args A2 c2/\Below wr.heap.size wr w'):=hid fun W hb=>by
     refine(HIH.out g PL.out _ b1 (o1+k*5) A' c' W (HB0.out.trans ((au bJ.out hb).mono HB0.out.size)) (HG.out.keep (Keeps.of_below hb fun k hk=>Nat.lt_of_lt_of_le hk bJ.out.size))).mono ?_;rintro e w' ⟨v,rfl,hb',A2,c2,rfl,ha2⟩;rw[HG'.out]at ha2⊢;exact⟨A2,c2,rfl,ha2.base hb.size,au hb hb'⟩
    clear hk hlf hlt HX hg hg';have q5:=Nat.lt_of_lt_of_le q1 bJ.out.size;have q6:=lt_of_block PN.out;obtain⟨y1,y4⟩:=yX.out wr (Below.refl _ _);obtain⟨i0,hti,hz0,hz1,hz2⟩:=info_parts iH;go_upto_region 7 with(fail)
    refine iL (fun W':World=>W'.cell? ⟨w.heap.size+1,4,none⟩=some (.slice X k cx)/\W'.cell? ⟨b,o+4,none⟩=some (.slice (some ⟨b1,o1,none⟩) N c)) (by kernel_rfl) (by kernel_rfl) (by kernel_rfl) ⟨y1,y4⟩ (fun hHeld=>?_);simp only[List.dropLast_cons_cons,List.dropLast_singleton,List.getLast_cons_cons,List.getLast_singleton];refine fH 0 ?_ rfl (by kernel_rfl) (fun _ _ _ h=>h) ?_ (by assumption) ?_
    rotate_left
    ·intro w hSw;(try dsimp only at hSw);go_simp;(try(with_reducible rfl))
    try simp only[Act.put,bf,bn,bC]
    refine fH 1 ?_ rfl (by kernel_rfl) (fun _ _ _ h=>h) ?_ (by assumption) ?_
    rotate_left
    ·intro w hSw;(try dsimp only at hSw);go_simp;(try(with_reducible rfl))
    try simp only[Act.put,bf,bn,bC]
    refine fH 2 ?_ rfl (by kernel_rfl) (fun _ _ _ h=>h) ?_ (by assumption) ?_
    rotate_left
    ·intro w hSw;(try dsimp only at hSw);go_simp;(try(with_reducible rfl))
    try simp only[Act.put,bf,bn,bC]
    refine fH 3 ?_ rfl (by kernel_rfl) (fun _ _ _ h=>h) ?_ (by assumption) ?_
    rotate_left
    ·intro w hSw;(try dsimp only at hSw);go_simp;(try(with_reducible rfl))
    try simp only[Act.put,bf,bn,bC]
    refine fH 4 ?_ rfl (by kernel_rfl) (fun _ _ _ h=>h) ?_ (by assumption) ?_
    rotate_left
    ·intro w hSw;(try dsimp only at hSw);go_simp;(try(with_reducible rfl))
    try simp only[Act.put,bf,bn,bC]
    refine fH 5 ?_ rfl (by kernel_rfl) (fun _ _ _ h=>h) ?_ (by assumption) ?_
    rotate_left
    ·intro w hSw;(try dsimp only at hSw);go_simp;(try(with_reducible rfl))
    try simp only[Act.put,bf,bn,bC]
    refine fH 6 ?_ rfl (by kernel_rfl) (fun _ _ _ h=>h) ?_ (by assumption) ?_
    rotate_left
    ·intro w hSw;(try dsimp only at hSw);go_simp;(try(with_reducible rfl))
    try simp only[Act.put,bf,bn,bC]
    refine fH 7 ?_ rfl (by kernel_rfl) (fun _ _ _ h=>h) ?_ (by assumption) ?_
    rotate_left
    ·intro w hSw;(try dsimp only at hSw);go_simp;(try(with_reducible rfl))
    try simp only[Act.put,bf,bn,bC]
    refine fH 8 ?_ rfl (by kernel_rfl) (fun _ _ _ h=>h) ?_ (by assumption) ?_
    rotate_left
    ·intro w hSw;(try dsimp only at hSw);go_simp;(try(with_reducible rfl))
    try simp only[Act.put,bf,bn,bC]
    refine lX 9 (by kernel_rfl) rfl fun K hK=>?_
    go_simp
    (go_at_call 45;(with_reducible refine(aO.out _ ?_).mono ?_);exact(Below.refl _ _).drew;rintro e V1 ⟨A2,c2,rfl,ha2,hb1⟩;have qy:=hid hb1;have HA2:=hid ha2;clear hb1 ha2)
    go_wp2_with fail
    refine hK.out _ _ ?_ (fun hHeld=>?_)
    ·exact yX.out _ qy.out
    clear hK K
    try simp only[Act.put,bf,bn,bC]
    refine lX 10 (by kernel_rfl) rfl fun K hK=>?_
    go_simp
    refine hK.out _ _ ?_ (fun hHeld=>?_)
    ·exact yX.out _ (qy.out.alloc qy.out.size _)
    clear hK K
    try simp only[Act.put,bf,bn,bC]
    refine dM (fun wA hwA hHeld=>?_) hHeld;have FT:Below V1.heap.size V1 wA:=by rw[hwA];exact(Below.refl _ _).alloc (Nat.le_refl _) _
    have OY:Rd wA aZ 5 (some ⟨V1.heap.size,0,none⟩) 1 1 (eU g' (A2,c2)):=by rw[hwA];exact Rd.fresh (D:=aZ) rfl trivial (by simp) (by omega)
    have pX:=hid (au qy.out FT);have oC:=hid (show bV wA (Nw wr.heap.size wA) g'.args A2 c2 from((HA2.out.mono (E:=fun k=>Nw wr.heap.size V1 k/\k<V1.heap.size) fun k hk hl=>⟨hk,hl⟩).keep (Keeps.of_below FT fun _ h=>h.2)).mono fun k hk _=>⟨hk.1.1,hk.1.2.of_eq (FT.block k hk.2)⟩);have hfA:=Hl.out.dX (aH.aS (V:=fun _=>False) pX.out) fun _ h=>h.elim;have Cb:=hfA.own;rw[ny.out]at Cb;have Ew:=hid hfA;clear hwA FT hfA;refine lX 11 (by kernel_rfl) rfl fun K hK=>?_
    refine dA _ (by rfl) _ _ 22 (by rfl) (w.heap.size+2) 24 i0 _ 5 64 Tryz.underlying22 hti hz0 hz1 hz2 rfl (by omega) (.slice X k cx) k _ (by rfl) Cb _ (some ⟨V1.heap.size,0,none⟩) 1 1 _ (by rfl) OY (by simp[Value.oneCell',eU]) (by have:=dY.out;have:=HAS.out;have:=HN.out;omega) (dI (by have:=dY.out;have:=HAS.out;have:=HN.out;omega)) (by have:=pX.out.size;omega) ?_;intro A7 c7 w7 oU qZ wM
    have hge:∀k',(Value.slice X k cx).ownBlock=some k'->w.heap.size+2<=k'/\k'<wr.heap.size:=fun k' hk'=>by
     have:=Hl.out.ge (k:=k') (by rw[ny.out];exact hk');exact this
    have Tz:∀b',b'<wA.heap.size->b'<w.heap.size+2->w7.heap[b']?=wA.heap[b']?:=fun b' h1 h2=>qZ.block b' h1 (fun e=>by have:=(hge _ e.symm).1;omega);have hcf:bP [g'] [(A2,c2)]=eU g' (A2,c2):=by simp[bP]
    have Qz:bT w7 (w.heap.size+2) A7 c7 (R ++ [g']) (sl ++ [(A2,c2)]):=by
     refine bT.app (n:=k+1) Ew.out (by rw[ny.out];exact qZ) (by rw[List.length_append,ny.out];rfl) (by rw[hcf];exact oU) (by rw[ny.out];exact wM) rfl fun i hi=>?_;have hi0:i=0:=by simpa using hi
     subst hi0;refine oC.out.mono fun k' hk' hl'=>⟨⟨by have:=hk'.1;omega,hk'.2⟩,fun e=>?_⟩;rw[ny.out]at e;have:=(hge _ e).2;have:=hk'.1;omega
    have BZ:OB w7 (w.heap.size+1) f.op f.name vz f.bound X k cx:=(Tz _ (Nat.lt_of_lt_of_le q6 pX.out.size) (by omega)).trans (PN.out.below pX.out);have hR7:OB w7 w.heap.size 0 ⟨#[]⟩ 0 0 none 0 0:=(Tz _ (Nat.lt_of_lt_of_le (by omega) pX.out.size) (by omega)).trans (sJ.out.below pX.out);have vX:=hid (show Below w.heap.size w w7 from(au bJ.out pX.out).trans ⟨qZ.os,qZ.tape,qZ.output,qZ.size,fun b' hb'=>Tz b' (Nat.lt_of_lt_of_le hb' (au bJ.out pX.out).size) (by omega)⟩);refine hK.out _ _ ?_ (fun hHeld=>?_)
    ·exact⟨BZ.cells.2.2.2.2.1,(vX.out.cell (p:=⟨b,o+4,none⟩) q1).trans LU.out⟩
    clear hK K
    try simp only[Act.put,bf,bn,bC]
    refine fH 12 ?_ rfl (by kernel_rfl) (fun _ _ _ h=>h) ?_ (by assumption) ?_
    rotate_left
    ·intro w hSw;(try dsimp only at hSw);go_simp;(try(with_reducible rfl))
    try simp only[Act.put,bf,bn,bC]
    have ZK:=hid BZ;have HR7:=hid hR7;have Zy:=hid Qz;have f7:=BZ.free 4;have l7:=lt_of_block BZ;have c9:=BZ.cells.2.2.2.2.1;clear BZ hR7 Qz oU qZ Tz wM hHeld Cb OY hge y1 y4 q5;refine wpAnyH_done (by kernel_rfl) ?_ _;unfold jX
    go_simp
    go_wp2_with fail
    go_roundw
    case rel =>
     obtain⟨w8,hw8⟩:∃w8,w8=w7.setCell ⟨w.heap.size+1,4,none⟩ (.slice A7 (k+1) c7):=⟨_,rfl⟩;have FV:aH (fun b=>b=w.heap.size+1) w7 w8:=by rw[hw8];exact(aH.refl (fun b=>b=w.heap.size+1) w7).set ⟨w.heap.size+1,4,none⟩ _ fun _=>rfl
     rw[<-hw8];refine⟨k+1,A7,c7,R ++ [g'],sl ++ [(A2,c2)],by have:=dY.out;omega,by go_num,Eb.out.symm,by show(R ++ [g']).length=_;rw[List.length_append,ny.out];rfl,Zy.out.dX FV (fun x hx=>by have hx':x=w.heap.size+1:=hx;omega),?_,FV.box HR7.out (by show¬w.heap.size=w.heap.size+1;omega),vX.out.trans (FV.below (fun b hb h=>by have h':b=w.heap.size+1:=h;omega) vX.out.size)⟩;unfold OB;rw[hw8,aB ZK.out];rfl
    case measure=>have:=dY.out;simp[intOf];omega
   ·have hii:¬(k:Int)<(N:Int):=by omega
    obtain rfl:k=N:=by omega
    have Lu:=hid (show R=f.args.map (iq vb)by rw[ET.out,HN.out,List.take_length]);obtain⟨z0,z1,z2,z3,z4,z5⟩:=sJ.out.cells;have p0:=sJ.out.free 0;have p1:=sJ.out.free 1;have p2:=sJ.out.free 2;have p3:=sJ.out.free 3;have p4:=sJ.out.free 4;obtain⟨x0,x1,x2,x3,x4,x5⟩:=PN.out.cells;clear hk hlt;go_wp2_with fail
    refine aK fun W9 zJ=>?_;have hO9:OB W9 w.heap.size f.op f.name vz f.bound X k cx:=by rw[zJ];exact bF sJ.out
    have Zq:aH (fun x=>x=w.heap.size) wr W9:=by rw[zJ];exact aN _ _ _ _ _ _ _
    clear zJ p0 p1 p2 p3 p4 z0 z1 z2 z3 z4 z5 x0 x1 x2 x3 x4 x5;obtain⟨r0,r1,r2,r3,r4,r5⟩:=hO9.cells;refine bodyPost_ret (v := .agg #[.int .i64 f.op,.string f.name,.int .i64 vz,.int .i64 f.bound,.slice X k cx]) (by simp[results,Tryz.results45,go_sem,r0,r1,r2,r3,r4]) rfl ⟨_,rfl,bJ.out.trans (Zq.below (B:=w.heap.size) (fun x hx hv=>by have hv':x=w.heap.size:=hv;omega) bJ.out.size),X,cx,?_,?_⟩
    ·rw[SN,Iy,HVZ.out,E5,xH,List.length_map,<-HN.out]
    ·rw[xH,<-Lu.out]
     have hrd:=(Hl.out.dX Zq (fun x hx=>by have hx':x=w.heap.size:=hx;omega)).rd (by have:=ny.out;have:=HAS.out;have:=HN.out;omega);exact hrd.base (by omega)
 ·have SE:=hid (show OB W9 (w.heap.size+1) f.op f.name vz f.bound none 0 0 by rw[<-qbp.out (by trivial)];exact HO1.out)
  have HB4:=hid HB1.out;have HR4:=hid HR1.out;clear p0 q2;obtain⟨W4,Ef⟩:∃W4,W4=W9:=⟨_,rfl⟩;rw[<-Ef]at SE HB4 HR4⊢;clear Ef;have y4:=(HB4.out.cell (p:=⟨b,o+4,none⟩) q1).trans LU.out;have y5:=Nat.lt_of_lt_of_le q1 HB4.out.size;go_wp2_with fail
  clear y4 y5
  go_loopw [38] (fun r wr=>∃(k:Nat) (X:Option Addr) (cx:Nat) (R:List Fm) (sl:List (Option Addr×Nat)),k<=N/\r = .int .i64 (k:Int)/\Hid (R=(f.args.take k).map (iq vb))/\Hid (R.length=k)/\bT wr (w.heap.size+2) X cx R sl/\OB wr (w.heap.size+1) f.op f.name vz f.bound X k cx/\OB wr w.heap.size 0 ⟨#[]⟩ 0 0 none 0 0/\Below w.heap.size w wr) (fun r _=>N-(intOf r).toNat)
  case atStart=>exact⟨0,none,0,[],[],Nat.zero_le _,rfl,rfl,rfl,bT.nil _ _,SE.out,HR4.out,HB4.out⟩
  case round =>
   obtain⟨k,X,cx,R,sl,hk,rfl,ET,ny,hfr,hob,hrb,hbl⟩:=hrel;have Hl:=hid hfr;have PN:=hid hob;have sJ:=hid hrb;have bJ:=hid hbl;clear hfr hob hrb hbl
   by_cases hlt:k<N
   ·have hii:(k:Int)<(N:Int):=by omega
    have hi0:(0:Int)<=(k:Int):=by omega
    have hlf:k<f.args.length:=by rw[<-HN.out];exact hlt
    obtain⟨b1,o1,A',c',g,rfl,HX,hg⟩:=(HF.out.keep (Keeps.of_below bJ.out fun _ h=>h)).args.get hlf;have PL:=hid (show g∈f.args by rw[<-HX.out];exact cO hlf);have Eb:=hid (show(f.args.take (k+1)).map (iq vb)=R ++ [iq vb g]by rw[Iz hlf,HX.out,ET.out]);have HG:=hid hg;have dY:=hid hlt;obtain⟨g',hg'⟩:∃g',iq vb g=g':=⟨_,rfl⟩;have HG':=hid hg';rw[hg']at Eb
    have yX:Hid (∀W':World,Below wr.heap.size wr W'->W'.cell? ⟨w.heap.size+1,4,none⟩=some (.slice X k cx)/\W'.cell? ⟨b,o+4,none⟩=some (.slice (some ⟨b1,o1,none⟩) N c)):=hid fun W' hb =>
     ⟨(PN.out.below hb).cells.2.2.2.2.1,((au bJ.out hb).cell (p:=⟨b,o+4,none⟩) q1).trans LU.out⟩
    have aO:Hid (∀W,Below wr.heap.size wr W->Calls Tryz.prog 45 #[.pointer (some ⟨b1,o1+k*5,none⟩),.func (.func fn) #[] caps] W fun e w'=>∃A2 c2,e = .returned (.agg #[.int .i64 g'.op,.string g'.name,.int .i64 g'.val,.int .i64 g'.bound,.slice A2 g'.args.length c2])/\bV w' (Nw wr.heap.size w') g'.args A2 c2/\Below wr.heap.size wr w'):=hid fun W hb=>by
     refine(HIH.out g PL.out _ b1 (o1+k*5) A' c' W (HB0.out.trans ((au bJ.out hb).mono HB0.out.size)) (HG.out.keep (Keeps.of_below hb fun k hk=>Nat.lt_of_lt_of_le hk bJ.out.size))).mono ?_;rintro e w' ⟨v,rfl,hb',A2,c2,rfl,ha2⟩;rw[HG'.out]at ha2⊢;exact⟨A2,c2,rfl,ha2.base hb.size,au hb hb'⟩
    clear hk hlf hlt HX hg hg';have q5:=Nat.lt_of_lt_of_le q1 bJ.out.size;have q6:=lt_of_block PN.out;obtain⟨y1,y4⟩:=yX.out wr (Below.refl _ _);obtain⟨i0,hti,hz0,hz1,hz2⟩:=info_parts iH;go_upto_region 7 with(fail)
    refine iL (fun W':World=>W'.cell? ⟨w.heap.size+1,4,none⟩=some (.slice X k cx)/\W'.cell? ⟨b,o+4,none⟩=some (.slice (some ⟨b1,o1,none⟩) N c)) (by kernel_rfl) (by kernel_rfl) (by kernel_rfl) ⟨y1,y4⟩ (fun hHeld=>?_);simp only[List.dropLast_cons_cons,List.dropLast_singleton,List.getLast_cons_cons,List.getLast_singleton];refine fH 0 ?_ rfl (by kernel_rfl) (fun _ _ _ h=>h) ?_ (by assumption) ?_
    rotate_left
    ·intro w hSw;(try dsimp only at hSw);go_simp;(try(with_reducible rfl))
    try simp only[Act.put,bf,bn,bC]
    refine fH 1 ?_ rfl (by kernel_rfl) (fun _ _ _ h=>h) ?_ (by assumption) ?_
    rotate_left
    ·intro w hSw;(try dsimp only at hSw);go_simp;(try(with_reducible rfl))
    try simp only[Act.put,bf,bn,bC]
    refine fH 2 ?_ rfl (by kernel_rfl) (fun _ _ _ h=>h) ?_ (by assumption) ?_
    rotate_left
    ·intro w hSw;(try dsimp only at hSw);go_simp;(try(with_reducible rfl))
    try simp only[Act.put,bf,bn,bC]
    refine fH 3 ?_ rfl (by kernel_rfl) (fun _ _ _ h=>h) ?_ (by assumption) ?_
    rotate_left
    ·intro w hSw;(try dsimp only at hSw);go_simp;(try(with_reducible rfl))
    try simp only[Act.put,bf,bn,bC]
    refine fH 4 ?_ rfl (by kernel_rfl) (fun _ _ _ h=>h) ?_ (by assumption) ?_
    rotate_left
    ·intro w hSw;(try dsimp only at hSw);go_simp;(try(with_reducible rfl))
    try simp only[Act.put,bf,bn,bC]
    refine fH 5 ?_ rfl (by kernel_rfl) (fun _ _ _ h=>h) ?_ (by assumption) ?_
    rotate_left
    ·intro w hSw;(try dsimp only at hSw);go_simp;(try(with_reducible rfl))
    try simp only[Act.put,bf,bn,bC]
    refine fH 6 ?_ rfl (by kernel_rfl) (fun _ _ _ h=>h) ?_ (by assumption) ?_
    rotate_left
    ·intro w hSw;(try dsimp only at hSw);go_simp;(try(with_reducible rfl))
    try simp only[Act.put,bf,bn,bC]
    refine fH 7 ?_ rfl (by kernel_rfl) (fun _ _ _ h=>h) ?_ (by assumption) ?_
    rotate_left
    ·intro w hSw;(try dsimp only at hSw);go_simp;(try(with_reducible rfl))
    try simp only[Act.put,bf,bn,bC]
    refine fH 8 ?_ rfl (by kernel_rfl) (fun _ _ _ h=>h) ?_ (by assumption) ?_
    rotate_left
    ·intro w hSw;(try dsimp only at hSw);go_simp;(try(with_reducible rfl))
    try simp only[Act.put,bf,bn,bC]
    refine lX 9 (by kernel_rfl) rfl fun K hK=>?_
    go_simp
    (go_at_call 45;(with_reducible refine(aO.out _ ?_).mono ?_);exact(Below.refl _ _).drew;rintro e V1 ⟨A2,c2,rfl,ha2,hb1⟩;have qy:=hid hb1;have HA2:=hid ha2;clear hb1 ha2)
    go_wp2_with fail
    refine hK.out _ _ ?_ (fun hHeld=>?_)
    ·exact yX.out _ qy.out
    clear hK K
    try simp only[Act.put,bf,bn,bC]
    refine lX 10 (by kernel_rfl) rfl fun K hK=>?_
    go_simp
    refine hK.out _ _ ?_ (fun hHeld=>?_)
    ·exact yX.out _ (qy.out.alloc qy.out.size _)
    clear hK K
    try simp only[Act.put,bf,bn,bC]
    refine dM (fun wA hwA hHeld=>?_) hHeld;have FT:Below V1.heap.size V1 wA:=by rw[hwA];exact(Below.refl _ _).alloc (Nat.le_refl _) _
    have OY:Rd wA aZ 5 (some ⟨V1.heap.size,0,none⟩) 1 1 (eU g' (A2,c2)):=by rw[hwA];exact Rd.fresh (D:=aZ) rfl trivial (by simp) (by omega)
    have pX:=hid (au qy.out FT);have oC:=hid (show bV wA (Nw wr.heap.size wA) g'.args A2 c2 from((HA2.out.mono (E:=fun k=>Nw wr.heap.size V1 k/\k<V1.heap.size) fun k hk hl=>⟨hk,hl⟩).keep (Keeps.of_below FT fun _ h=>h.2)).mono fun k hk _=>⟨hk.1.1,hk.1.2.of_eq (FT.block k hk.2)⟩);have hfA:=Hl.out.dX (aH.aS (V:=fun _=>False) pX.out) fun _ h=>h.elim;have Cb:=hfA.own;rw[ny.out]at Cb;have Ew:=hid hfA;clear hwA FT hfA;refine lX 11 (by kernel_rfl) rfl fun K hK=>?_
    refine dA _ (by rfl) _ _ 22 (by rfl) (w.heap.size+2) 24 i0 _ 5 64 Tryz.underlying22 hti hz0 hz1 hz2 rfl (by omega) (.slice X k cx) k _ (by rfl) Cb _ (some ⟨V1.heap.size,0,none⟩) 1 1 _ (by rfl) OY (by simp[Value.oneCell',eU]) (by have:=dY.out;have:=HAS.out;have:=HN.out;omega) (dI (by have:=dY.out;have:=HAS.out;have:=HN.out;omega)) (by have:=pX.out.size;omega) ?_;intro A7 c7 w7 oU qZ wM
    have hge:∀k',(Value.slice X k cx).ownBlock=some k'->w.heap.size+2<=k'/\k'<wr.heap.size:=fun k' hk'=>by
     have:=Hl.out.ge (k:=k') (by rw[ny.out];exact hk');exact this
    have Tz:∀b',b'<wA.heap.size->b'<w.heap.size+2->w7.heap[b']?=wA.heap[b']?:=fun b' h1 h2=>qZ.block b' h1 (fun e=>by have:=(hge _ e.symm).1;omega);have hcf:bP [g'] [(A2,c2)]=eU g' (A2,c2):=by simp[bP]
    have Qz:bT w7 (w.heap.size+2) A7 c7 (R ++ [g']) (sl ++ [(A2,c2)]):=by
     refine bT.app (n:=k+1) Ew.out (by rw[ny.out];exact qZ) (by rw[List.length_append,ny.out];rfl) (by rw[hcf];exact oU) (by rw[ny.out];exact wM) rfl fun i hi=>?_;have hi0:i=0:=by simpa using hi
     subst hi0;refine oC.out.mono fun k' hk' hl'=>⟨⟨by have:=hk'.1;omega,hk'.2⟩,fun e=>?_⟩;rw[ny.out]at e;have:=(hge _ e).2;have:=hk'.1;omega
    have BZ:OB w7 (w.heap.size+1) f.op f.name vz f.bound X k cx:=(Tz _ (Nat.lt_of_lt_of_le q6 pX.out.size) (by omega)).trans (PN.out.below pX.out);have hR7:OB w7 w.heap.size 0 ⟨#[]⟩ 0 0 none 0 0:=(Tz _ (Nat.lt_of_lt_of_le (by omega) pX.out.size) (by omega)).trans (sJ.out.below pX.out);have vX:=hid (show Below w.heap.size w w7 from(au bJ.out pX.out).trans ⟨qZ.os,qZ.tape,qZ.output,qZ.size,fun b' hb'=>Tz b' (Nat.lt_of_lt_of_le hb' (au bJ.out pX.out).size) (by omega)⟩);refine hK.out _ _ ?_ (fun hHeld=>?_)
    ·exact⟨BZ.cells.2.2.2.2.1,(vX.out.cell (p:=⟨b,o+4,none⟩) q1).trans LU.out⟩
    clear hK K
    try simp only[Act.put,bf,bn,bC]
    refine fH 12 ?_ rfl (by kernel_rfl) (fun _ _ _ h=>h) ?_ (by assumption) ?_
    rotate_left
    ·intro w hSw;(try dsimp only at hSw);go_simp;(try(with_reducible rfl))
    try simp only[Act.put,bf,bn,bC]
    have ZK:=hid BZ;have HR7:=hid hR7;have Zy:=hid Qz;have f7:=BZ.free 4;have l7:=lt_of_block BZ;have c9:=BZ.cells.2.2.2.2.1;clear BZ hR7 Qz oU qZ Tz wM hHeld Cb OY hge y1 y4 q5;refine wpAnyH_done (by kernel_rfl) ?_ _;unfold jX
    go_simp
    go_wp2_with fail
    go_roundw
    case rel =>
     obtain⟨w8,hw8⟩:∃w8,w8=w7.setCell ⟨w.heap.size+1,4,none⟩ (.slice A7 (k+1) c7):=⟨_,rfl⟩;have FV:aH (fun b=>b=w.heap.size+1) w7 w8:=by rw[hw8];exact(aH.refl (fun b=>b=w.heap.size+1) w7).set ⟨w.heap.size+1,4,none⟩ _ fun _=>rfl
     rw[<-hw8];refine⟨k+1,A7,c7,R ++ [g'],sl ++ [(A2,c2)],by have:=dY.out;omega,by go_num,Eb.out.symm,by show(R ++ [g']).length=_;rw[List.length_append,ny.out];rfl,Zy.out.dX FV (fun x hx=>by have hx':x=w.heap.size+1:=hx;omega),?_,FV.box HR7.out (by show¬w.heap.size=w.heap.size+1;omega),vX.out.trans (FV.below (fun b hb h=>by have h':b=w.heap.size+1:=h;omega) vX.out.size)⟩;unfold OB;rw[hw8,aB ZK.out];rfl
    case measure=>have:=dY.out;simp[intOf];omega
   ·have hii:¬(k:Int)<(N:Int):=by omega
    obtain rfl:k=N:=by omega
    have Lu:=hid (show R=f.args.map (iq vb)by rw[ET.out,HN.out,List.take_length]);obtain⟨z0,z1,z2,z3,z4,z5⟩:=sJ.out.cells;have p0:=sJ.out.free 0;have p1:=sJ.out.free 1;have p2:=sJ.out.free 2;have p3:=sJ.out.free 3;have p4:=sJ.out.free 4;obtain⟨x0,x1,x2,x3,x4,x5⟩:=PN.out.cells;clear hk hlt;go_wp2_with fail
    refine aK fun W9 zJ=>?_;have hO9:OB W9 w.heap.size f.op f.name vz f.bound X k cx:=by rw[zJ];exact bF sJ.out
    have Zq:aH (fun x=>x=w.heap.size) wr W9:=by rw[zJ];exact aN _ _ _ _ _ _ _
    clear zJ p0 p1 p2 p3 p4 z0 z1 z2 z3 z4 z5 x0 x1 x2 x3 x4 x5;obtain⟨r0,r1,r2,r3,r4,r5⟩:=hO9.cells;refine bodyPost_ret (v := .agg #[.int .i64 f.op,.string f.name,.int .i64 vz,.int .i64 f.bound,.slice X k cx]) (by simp[results,Tryz.results45,go_sem,r0,r1,r2,r3,r4]) rfl ⟨_,rfl,bJ.out.trans (Zq.below (B:=w.heap.size) (fun x hx hv=>by have hv':x=w.heap.size:=hv;omega) bJ.out.size),X,cx,?_,?_⟩
    ·rw[SN,Iy,HVZ.out,E5,xH,List.length_map,<-HN.out]
    ·rw[xH,<-Lu.out]
     have hrd:=(Hl.out.dX Zq (fun x hx=>by have hx':x=w.heap.size:=hx;omega)).rd (by have:=ny.out;have:=HAS.out;have:=HN.out;omega);exact hrd.base (by omega)
end Go.Proofs.YtdpbgcmfeajigaaGreatDoor
