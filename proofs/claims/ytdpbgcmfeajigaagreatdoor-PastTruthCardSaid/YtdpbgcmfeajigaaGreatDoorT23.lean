/-
  Parts of a proof: X3 X4 X5 X6 LN.
-/
import Derived.Shelf.Abstract
import Derived.Shelf.AbstractIn
import Derived.Test.YtdpbgcmfeajigaaGreatDoorT06
import Derived.Test.YtdpbgcmfeajigaaGreatDoorT22
import Derived.Test.YtdpbgcmfeajigaaGreatDoorT16
import Derived.Test.YtdpbgcmfeajigaaGreatDoorRows
import Derived.ProofKit
import Derived.LaidMore
import Derived.OpenShut
import Derived.Stop.Joined
import Derived.Test.YtdpbgcmfeajigaaGreatDoorT04
set_option linter.unusedSimpArgs false
set_option linter.unusedVariables false
set_option maxHeartbeats 8000000
set_option maxRecDepth 100000
namespace Go.Proofs.YtdpbgcmfeajigaaGreatDoor
open Go.RowKit Go.Shelf
attribute [local go_sem] ak run_store_func
structure SL (l:Nat) (L:List (Fm×Bool)) (Z:Dom) (B0 B1:Nat) (J:Nat->World->Prop) (X:World->Prop):Prop where
 z:∀b,Z b->B0<=b/\(b<B1\/B1+2<=b)
 keep:∀k W W',J k W->aH (fun b=>B1<=b/\b<B1+2) W W'->J k W'
 qbK:∀W W',X W->aH (fun b=>B1<=b/\b<B1+2) W W'->X W'
 step:∀k W b o A c,B1+2<=W.heap.size->J k W->k<L.length->dR W (· < B0) b o (L.getD k default).1 A c ->
  YieldAt Fence.wide 0 Tryz.prog l #[.pointer (some ⟨b,o,none⟩)] W fun e W'=>aH Z W W'/\((e = .returned (.bool true)/\J (k+1) W')\/(e = .returned (.bool false)/\X W'))
structure Uh (w:World) (l yb vb:Nat):Prop where
 y:w.heap[yb]?=some (.cells #[.func (.yield l) #[] #[]] 66 (0,0))
 v:w.heap[vb]?=some (.cells #[.func (.func 210) #[] #[.pointer (some ⟨yb,0,none⟩),.pointer (some ⟨vb,0,none⟩)]] 66 (0,0))
theorem Uh.dX {w w':World}{l yb vb:Nat}{V:Dom}(h:Uh w l yb vb)(hc:aH V w w')(hy:¬V yb)(hv:¬V vb):Uh w' l yb vb:=⟨hc.box h.y hy,hc.box h.v hv⟩
theorem Si {l:Nat}{L:List (Fm×Bool)}{Z:Dom}{B0 B1:Nat}{J:Nat->World->Prop}{X:World->Prop}(hR:SL l L Z B0 B1 J X)(yb vb:Nat)(hy:B1<=yb/\yb<B1+2)(hv:B1<=vb/\vb<B1+2)(hB:0<B0)(f:Fm):∀(ins:Bool) (b o:Nat) (A:Option Addr) (c:Nat) (k:Nat) (w:World) (hf:dR w (· < B0) b o f A c) (hvb:Uh w l yb vb) (hs:B1+2<=w.heap.size) (hj:J k w) (hl:(L.drop k).take f.size=fE ins f),
  Calls Tryz.prog 210 #[.pointer (some ⟨b,o,none⟩),.pointer (some ⟨yb,0,none⟩),.pointer (some ⟨vb,0,none⟩)] w (EC Z J X (k+f.size) w):=by
 refine Fm.induct (P:=fun f=>∀(ins:Bool) (b o:Nat) (A:Option Addr) (c:Nat) (k:Nat) (w:World) (hf:dR w (· < B0) b o f A c) (hvb:Uh w l yb vb) (hs:B1+2<=w.heap.size) (hj:J k w) (hl:(L.drop k).take f.size=fE ins f),
  Calls Tryz.prog 210 #[.pointer (some ⟨b,o,none⟩),.pointer (some ⟨yb,0,none⟩),.pointer (some ⟨vb,0,none⟩)] w (EC Z J X (k+f.size) w)) ?_ f
 intro f ih ins b o A c k w hf hvb hs hj hl;have HR:=hid hR;have HIH:=hid ih;have jE:=hid (Fm.size_eq f);have HH:=hid hf;have HV:=hid hvb;have HJ:=hid hj;have HL:=hid hl;have Zl:=hid (show¬Z yb from fun h=>by have:=hR.z _ h;omega);have G8:=hid (show¬Z vb from fun h=>by have:=hR.z _ h;omega);have Iq:Hid (∀b,b<w.heap.size->b<B0->¬Z b):=hid fun b _ h hz=>by have:=hR.z _ hz;omega
 have hal:=hf.args.len.1;obtain⟨hkL,hLk⟩:=wI hl;obtain⟨yf,yt,ya,yb',QE,Tq⟩:=hR.step k w b o A c hs hj hkL (by rw[hLk];exact hf);obtain⟨_,hlw,_,_,_,_,_,_⟩:=hf;have y0:=aj hvb.y (i:=0) rfl;have HR4:=hid Tq;clear hR ih hvb hj hl hkL hLk Tq
 go_enter Tryz.func210,Tryz.ntmps210
 go_upto_region 1 with(fail)
 refine(wpIn_wide (n:=1)).1 ?_
 gi_wp2
 refine HR4.out.mono ?_;rintro e w4 ⟨hc4,(⟨rfl,Tn⟩|⟨rfl,XY⟩)⟩
 rotate_left
 ·have Bo:=hid hc4
  have HX4:=hid XY;clear hc4 XY y0 QE
  gi_wp2
  go_wp2_with fail
  go_ret
  exact⟨Bo.out,false,rfl,(fun h=>by cases h),fun _=>HX4.out⟩
 ·have HC8:=hid hc4
  have HJ8:=hid Tn;obtain⟨_,hl4,c0,c1,c2,c3,c4,_⟩:=HH.out.keep (hc4.keeps Iq.out);obtain⟨ps,hps⟩:∃ps,ps=(ins || (aJ f.op).past):=⟨_,rfl⟩;have HQ:=hid hps;clear hc4 Tn y0 QE c0 c1 c2 c3 hps
  gi_wp2
  go_wp2_with fail
  go_loopw [15] (fun q wr=>∃i:Nat,i<=f.args.length/\q = .int .i64 (i:Int)/\aH Z w wr/\J (k+1+sizes (f.args.take i)) wr) (fun q _=>f.args.length-(intOf q).toNat)
  case atStart=>exact⟨0,Nat.zero_le _,rfl,HC8.out,by simpa[sizes]using HJ8.out⟩
  case round =>
   obtain⟨i,hi,rfl,hc,hj⟩:=hrel;have EL:=hid hc;have WL:=hid hj;obtain⟨_,hlr,_,_,_,_,VY,ha'⟩:=HH.out.keep (hc.keeps Iq.out);have Bj:=hid ha';have hvr:=HV.out.dX hc Zl.out G8.out;have zM:=hid hvr;have LX:=hid (Nat.le_trans hs hc.size);clear hc hj ha' hvr
   by_cases tN:i<f.args.length
   ·have hii:(i:Int)<f.args.length:=by omega
    obtain⟨b1,o1,A1,c1,g,rfl,HX,hg⟩:=Bj.out.get tN;have wC:=hid (qV f.args tN);have WM:=hid (rW HL.out tN HX.out);have WJ:=hid (HIH.out i tN);rw[HX.out]at wC WJ;rw[<-HQ.out]at WM;have f0:=aj zM.out.v (i:=0) rfl
    have aO:Hid (∀W',aV wr W'->Calls Tryz.prog 210 #[.pointer (some ⟨b1,o1+i*5,none⟩),.pointer (some ⟨yb,0,none⟩),.pointer (some ⟨vb,0,none⟩)] W' fun e W9=>aH Z wr W9/\∃r,e = .returned (.bool r)/\(r=true->J (k+1+sizes (f.args.take (i+1))) W9)/\(r=false->X W9)):=hid fun W' hdw=>by
     have hbw:=hdw.below wr.heap.size;have hcd:aH (fun b=>B1<=b/\b<B1+2) wr W':=aH.aS hbw;refine(WJ.out ps b1 (o1+i*5) A1 c1 (k+1+sizes (f.args.take i)) W' (hg.keep hdw.keeps) ⟨(hbw.block _ (lt_of_block zM.out.y)).trans zM.out.y,(hbw.block _ (lt_of_block zM.out.v)).trans zM.out.v⟩ (Nat.le_trans LX.out hbw.size) (HR.out.keep _ _ _ WL.out hcd) WM.out).mono ?_;rintro e w' ⟨hc,hx⟩;rw[wC.out,<-Nat.add_assoc];exact⟨(aH.aS (V:=Z) hbw).trans hc,hx⟩
    have aI:Hid (∀W':World,aH Z wr W'->W'.cell? ⟨vb,0,none⟩=some (.func (.func 210) #[] #[.pointer (some ⟨yb,0,none⟩),.pointer (some ⟨vb,0,none⟩)])/\W'.cell? ⟨b,o+4,none⟩=some (.slice (some ⟨b1,o1,none⟩) f.args.length c)):=hid fun W' hc =>
     ⟨aj (zM.out.dX hc Zl.out G8.out).v (i:=0) rfl,(HH.out.keep ((EL.out.trans hc).keeps Iq.out)).c4⟩
    clear hg;have HI1:=hid (show aV wr wr.drew from(aV.refl wr).drew);have HI2:=hid (fun i=>aV.n wr i);go_upto_region 6 with(fail)
    go_region_held3 (fun W':World=>W'.cell? ⟨vb,0,none⟩=some (.func (.func 210) #[] #[.pointer (some ⟨yb,0,none⟩),.pointer (some ⟨vb,0,none⟩)])/\W'.cell? ⟨b,o+4,none⟩=some (.slice (some ⟨b1,o1,none⟩) f.args.length c))
     (first|(with_reducible exact aI.out _ hI)|(go_keep;done))
     ((go_at_call 210;with_reducible refine(aO.out _ (by first|exact HI1.out|exact HI2.out _)).mono ?_;rintro e W9 ⟨hI,r,rfl,hJ,hX⟩))
    all_goals
     have Py:=hid hI;have VT:=hid hJ;have HCX:=hid hX;clear hI hJ hX f0 VY;cases r
     ·go_wp2_with fail
      go_ret
      exact⟨EL.out.trans Py.out,false,rfl,(fun h=>by cases h),fun _=>HCX.out trivial⟩
     ·go_wp2_with fail
      go_roundw
      case rel=>exact⟨i+1,by omega,by go_num,EL.out.trans Py.out,VT.out rfl⟩
      case measure=>simp[intOf];omega
   ·have hie:f.args.take i=f.args:=List.take_of_length_le (by omega)
    have hnl:¬(i:Int)<f.args.length:=by omega
    have VW:=hid (show J (k+f.size) wr by have:=WL.out;rw[hie]at this;rw[jE.out,<-Nat.add_assoc];exact this);clear hie;go_wp2_with fail
    go_ret
    exact⟨EL.out,true,rfl,(fun _=>VW.out),fun h=>by cases h⟩
theorem NQ {l:Nat}{Z:Dom}{B0 B1:Nat}{J:Nat->World->Prop}{X:World->Prop}(f:Fm)(hR:SL l (fE false f) Z B0 B1 J X)(hB:0<B0)(b o pb:Nat)(A:Option Addr)(c:Nat)(w:World)
  (hw:w.heap.size=B1) (hBB:B0<=B1) (hf:dR w (· < B0) b o f A c) (hp:w.cell? ⟨pb,0,none⟩=some (.pointer (some ⟨b,o,none⟩))) (hj:J 0 w) :
  Calls Tryz.prog 209 #[.func (.yield l) #[] #[],.pointer (some ⟨pb,0,none⟩)] w fun e w'=>(∃v,e = .returned v)/\aH Z w w'/\(J f.size w'\/X w'):=by
 subst hw;have HR:=hid hR;have HH:=hid hf;have HJ:=hid hj;have hpl:pb<w.heap.size:=World.block_lt_of_cell? w _ hp;clear hR hf hj
 go_enter Tryz.func209,Tryz.ntmps209
 go_upto_region 2 with(fail)
 refine aF fun W hW=>?_;have hbw:Below w.heap.size w W:=by rw[hW];go_grown
 have e0:W.heap[w.heap.size]?=some (.cells #[.func (.yield l) #[] #[]] 66 (0,0)):=by
  rw[hW,aQ _ _ _ (by simp only[World.size_alloc];omega),at_new _ _ _ rfl]
 have e3:W.heap[w.heap.size+1]?=some (.cells #[.nilFunc] 66 (0,0)):=by
  rw[hW,at_new _ _ _ (by simp only[World.size_alloc])]
 have hws:W.heap.size=w.heap.size+2:=by rw[hW];simp only[World.size_alloc]
 have hpW:W.cell? ⟨pb,0,none⟩=some (.pointer (some ⟨b,o,none⟩)):=(hbw.cell (p:=⟨pb,0,none⟩) hpl).trans hp;clear hW hp;have z0:=aj e3 (i:=0) rfl;have z1:=aA e3 (i:=0);have z2:=lt_of_block e3;have qfu:pb<W.heap.size:=by omega
 have oL:=hid e0;have Ip:=hid e3;have aT:=hid hbw;have yZ:=hid hws;have ZN:=hid hpW;clear e0 e3 hbw hws hpW;go_upto_region 3 with(fail)
 refine aF fun W3 hW=>?_
 have UW:Uh W3 l w.heap.size (w.heap.size+1):=by
  refine⟨?_,?_⟩
  ·rw[hW,Below.heap_setCell _ _ _ _ (by simp only[];omega)];exact oL.out
  ·rw[hW,aB Ip.out];rfl
 have hb3:Below w.heap.size w W3:=by
  rw[hW];exact aT.out.trans ((aH.set (V:=fun k=>k=w.heap.size+1) (aH.refl _ W) _ _ fun _=>rfl).below (fun b hb=>by omega) aT.out.size)
 have hs3:w.heap.size+2<=W3.heap.size:=by rw[hW];simp;have:=yZ.out;omega
 have hp3:W3.cell? ⟨pb,0,none⟩=some (.pointer (some ⟨b,o,none⟩)):=by
  rw[<-ZN.out];have:=(aH.set (V:=fun k=>k=w.heap.size+1) (aH.refl _ W) (p:=⟨w.heap.size+1,0,none⟩) (u := .func (.func 210) #[] #[.pointer (some ⟨w.heap.size,0,none⟩),.pointer (some ⟨w.heap.size+1,0,none⟩)]) fun _=>rfl);rw[<-hW]at this;exact World.cell?_of_block (w:=W) (a:=⟨pb,0,none⟩) (this.block pb (by simpa using qfu) (by omega))
 have f0:=aj UW.v (i:=0) rfl
 have aO:Hid (Calls Tryz.prog 210 #[.pointer (some ⟨b,o,none⟩),.pointer (some ⟨w.heap.size,0,none⟩),.pointer (some ⟨w.heap.size+1,0,none⟩)] W3 fun e W9=>aH Z W3 W9/\∃r,e = .returned (.bool r)/\(r=true->J (0+f.size) W9)/\(r=false->X W9)) :=
  hid (Si HR.out w.heap.size (w.heap.size+1) (by omega) (by omega) hB f false b o A c 0 W3 (HH.out.keep (Keeps.of_below hb3 fun k (hk:k<B0)=>Nat.lt_of_lt_of_le hk hBB)) UW hs3 (HR.out.keep _ _ _ HJ.out (aH.aS hb3)) (by rw[List.drop_zero,<-qP false f,List.take_length]))
 have HB3:=hid hb3;clear hW hb3 UW z0 z1 z2 oL Ip aT yZ ZN qfu;go_wp2_with (first|(go_at_call 210;with_reducible refine aO.out.mono ?_;rintro e W9 ⟨hI,r,rfl,hJ,hX⟩))
 have He:=(aH.aS (V:=Z) HB3.out).trans hI
 go_end0
 refine⟨⟨_,rfl⟩,He,?_⟩;cases r
 ·exact .inr (hX rfl)
 ·have:=hJ rfl
  rw[Nat.zero_add]at this;exact .inl this
end Go.Proofs.YtdpbgcmfeajigaaGreatDoor
namespace Go.Proofs.YtdpbgcmfeajigaaGreatDoor
open Go.RowKit Go.Shelf
attribute [local go_sem] ak run_store_func
theorem KT {g:Operand}{ps:Array Tmp}{assign body:Code}{Q:Exit->Act->World->Prop}{a:Act}{w:World}(f:Fm)(b o pb B0:Nat)(A:Option Addr)(c:Nat)(Z:Dom)(I:Nat->World->Prop)(Ix:Code->World->Prop)
  (hg:a.eval g = .func (.func 209) #[] #[.pointer (some ⟨pb,0,none⟩)]) (hps:ps.size=1)
  (hf:dR w (· < B0) b o f A c) (hB:0<B0) (hBw:B0<=w.heap.size) (hp:w.cell? ⟨pb,0,none⟩=some (.pointer (some ⟨b,o,none⟩)))
  (hZ:∀b,Z b->B0<=b/\(b<w.heap.size\/w.heap.size+4<=b))
  (hI:∀k W W',I k W->aH (fun b=>w.heap.size<=b/\b<w.heap.size+4) W W'->I k W')
  (hIx:∀c W W',Ix c W->aH (fun b=>w.heap.size<=b/\b<w.heap.size+4) W W'->Ix c W') (h0:I 0 w)
  (a₁ : Value->Act)
  (hassign:∀(l:Nat) (p:Value) (W:World) (K:Act->World->Prop),K (a₁ p) W ->
   assign.wpIn (Fence.wide.inRound l) 0 Tryz.prog (Exit.then K (fun _ _ _=>False)) { tmps:=(ps.zip #[p]).foldl (fun t (p,v)=>t.setIfInBounds p v) a.tmps,defers := [] } W)
  (eu:∀(l k:Nat) (W:World) (b o:Nat) (A:Option Addr) (c:Nat),w.heap.size+4<=W.heap.size->aH Z w W->I k W->k<(fE false f).length->dR W (· < B0) b o ((fE false f).getD k default).1 A c ->
   body.wpIn (Fence.wide.inRound l) 0 Tryz.prog (xG Z I Ix k W) (a₁ (.pointer (some ⟨b,o,none⟩))) W)
  (hdone:∀W,aH Z w W->I f.size W->W.heap[w.heap.size]?=some (.deferred (some []))->Q .normal { a with defers := { target := .collected w.heap.size,args := #[] } :: a.defers } W)
  (hstop:∀c W,aH Z w W->Ix c W->W.heap[w.heap.size]?=some (.deferred (some []))->c.wp Tryz.prog Q { a with defers := { target := .collected w.heap.size,args := #[] } :: a.defers } W) :
  (Code.rangeFunc g ps assign body).wp Tryz.prog Q a w:=by
 refine(wpIn_wide (n:=3)).1 (wpIn_rangeFunc fun fn _=>?_);obtain⟨rec,hrec⟩:∃rec:LoopState->Option Code->Loop,rec=fun st pe => { state:=st,pending:=pe,fn,tmps:=a.tmps,params:=ps,assign,body,defers:=w.heap.size }:=⟨_,rfl⟩;obtain⟨W1,hW1⟩:∃W1,(w.alloc (.deferred (some []))).alloc (.loop (rec .ready none))=W1:=⟨_,rfl⟩;have hL1:W1.heap[w.heap.size+1]?=some (.loop (rec .ready none)):=by rw[<-hW1];exact at_new _ _ _ (by simp)
 have hK1:W1.heap[w.heap.size]?=some (.deferred (some [])):=by rw[<-hW1,aQ _ _ _ (by simp)];exact at_new _ _ _ rfl
 have hs1:W1.heap.size=w.heap.size+2:=by rw[<-hW1];simp
 have hb1:Below w.heap.size w W1:=by rw[<-hW1];exact((Below.refl _ w).alloc (Nat.le_refl _) _).alloc (by simp) _
 refine⟨w.heap.size+1,[{ target := .collected w.heap.size,args := #[] }],W1,{ target := .fn (.func 209) #[.pointer (some ⟨pb,0,none⟩)],args := #[.func (.yield (w.heap.size+1)) #[] #[]] },W1,209,
  #[.func (.yield (w.heap.size+1)) #[] #[]] ++ #[.pointer (some ⟨pb,0,none⟩)],W1,?_,?_,?_,?_,?_,?_⟩
 ·rw[<-hW1,hrec];exact run_enterLoop_outer _ _ _ _ _
 ·simp only[resolve,hg]
  simp[go_sem]
 ·exact fun f' _=>trivial
 ·simp[invoke,go_sem,enters_of Tryz.func209 (by kernel_rfl) rfl]
 ·intro hd;simp[Fence.wide]at hd
 ·have own:∀W W':World,aH (fun b=>w.heap.size+2<=b/\b<w.heap.size+4) W W'->aH (fun b=>w.heap.size<=b/\b<w.heap.size+4) W W':=fun W W' h=>h.mono fun b _ hb=>⟨by omega,hb.2⟩
  have nZ:∀W W':World,aH (fun b=>b=w.heap.size+1) W W'->aH (fun b=>w.heap.size<=b/\b<w.heap.size+4) W W':=fun W W' h=>h.mono fun b _ hb=>by omega
  refine callsIn_wide.2 ((NQ (l:=w.heap.size+1) (Z:=fun b=>Z b\/b=w.heap.size+1) (B0:=B0) (B1:=w.heap.size+2)
   (J:=fun k W=>I k W/\aH Z w W/\W.heap[w.heap.size+1]?=some (.loop (rec .ready none))/\W.heap[w.heap.size]?=some (.deferred (some [])))
   (X:=fun W=>∃c,Ix c W/\aH Z w W/\W.heap[w.heap.size+1]?=some (.loop (rec .done (some c)))/\W.heap[w.heap.size]?=some (.deferred (some [])))
   f ⟨?_,?_,?_,?_⟩ hB b o pb A c W1 hs1 (by omega) (hf.keep (Keeps.of_below hb1 fun k (hk:k<B0)=>by omega)) ?_ ⟨hI 0 w W1 h0 (aH.aS hb1),aH.aS hb1,hL1,hK1⟩).mono ?_)
  ·rintro b (hb|hb)
   ·have:=hZ b hb;exact⟨this.1,by omega⟩
   ·omega
  ·rintro k W W' ⟨hi,hc,hl,hk⟩ hw
   exact⟨hI k W W' hi (own _ _ hw),hc.trans' hw fun b _ hb=>by omega,hw.box hl (by omega),hw.box hk (by omega)⟩
  ·rintro W W' ⟨c,hi,hc,hl,hk⟩ hw
   exact⟨c,hIx c W W' hi (own _ _ hw),hc.trans' hw fun b _ hb=>by omega,hw.box hl (by omega),hw.box hk (by omega)⟩
  ·rintro k W b o A c hsz ⟨hi,hc,hl,hk⟩ hlen hfw
   have hlt:w.heap.size+1<W.heap.size:=lt_of_block hl;have hy:=run_yield (P:=Tryz.prog) (args := #[.pointer (some ⟨b,o,none⟩)]) hl (by rw[hrec];exact hps.symm);rw[hrec]at hy;refine⟨fn,_,assign,body,hy,roundIn_of_wpIn trivial (hassign _ _ W _ ⟨_,run_beginRound hl (by rw[hrec]),?_⟩)⟩;obtain⟨Wb,QA⟩:∃Wb,Wb=W.putObj (w.heap.size+1) (.loop { rec .ready none with state := .busy }):=⟨_,rfl⟩;rw[<-QA];have hcb:aH (fun b=>b=w.heap.size+1) W Wb:=by rw[QA];exact aH.putObj _ _ _
   have hl2:Wb.heap[w.heap.size+1]?=some (.loop { rec .ready none with state := .busy }):=by rw[QA];exact World.putObj_heap_same hlt
   have hk2:Wb.heap[w.heap.size]?=some (.deferred (some [])):=hcb.box hk (by omega);have hsb:W.heap.size<=Wb.heap.size:=hcb.size;refine wpIn_mono (eu _ k Wb b o A c (by omega) (hc.trans' hcb fun b _ hb=>by omega) (hI _ _ _ hi (nZ _ _ hcb)) hlen (hfw.keep (hcb.keeps fun k _ (hk:k<B0)=>by omega))) ?_
   have fin:∀(jump:Option Code) (W3:World),aH Z Wb W3 ->
     (Instr.endRound (w.heap.size+1) jump).run Tryz.prog W3 = .ok (.bool jump.isNone) (W3.putObj (w.heap.size+1) (.loop (rec (if jump.isNone then .ready else .done) jump))) /\
     aH (fun b=>b=w.heap.size+1) W3 (W3.putObj (w.heap.size+1) (.loop (rec (if jump.isNone then .ready else .done) jump))) /\
     aH (fun b=>Z b\/b=w.heap.size+1) W (W3.putObj (w.heap.size+1) (.loop (rec (if jump.isNone then .ready else .done) jump))) /\
     aH Z w (W3.putObj (w.heap.size+1) (.loop (rec (if jump.isNone then .ready else .done) jump))) /\
     (W3.putObj (w.heap.size+1) (.loop (rec (if jump.isNone then .ready else .done) jump))).heap[w.heap.size+1]?=some (.loop (rec (if jump.isNone then .ready else .done) jump)) /\
     (W3.putObj (w.heap.size+1) (.loop (rec (if jump.isNone then .ready else .done) jump))).heap[w.heap.size]?=some (.deferred (some [])):=fun jump W3 hc3=>by
    have hl3:=hc3.box hl2 (fun h=>by have:=hZ _ h;omega);have hk3:=hc3.box hk2 (fun h=>by have:=hZ _ h;omega);have hcp:=aH.putObj W3 (w.heap.size+1) (.loop (rec (if jump.isNone then .ready else .done) jump));have hr:=run_endRound (P:=Tryz.prog) jump hl3;rw[hrec]at hr hcp⊢;refine⟨hr,hcp,?_,?_,World.putObj_heap_same (lt_of_block hl3),hcp.box hk3 (by omega)⟩
    ·exact((hcb.mono fun b _ hb => .inr hb).trans (hc3.mono fun b _ hb => .inl hb)).trans (hcp.mono fun b _ hb => .inr hb)
    ·exact((hc.trans' hcb fun b _ hb=>by omega).trans hc3).trans' hcp fun b _ hb=>by omega
   rintro e a3 W3 hp
   cases e with
   | normal =>
    obtain⟨hc3,hi3⟩:=hp;obtain⟨hr,hcp,hcW,hcw,hl4,hk4⟩:=fin none W3 hc3;exact⟨_,_,hr,hcW,.inl ⟨rfl,hI _ _ _ hi3 (nZ _ _ hcp),hcw,hl4,hk4⟩⟩
   | ret =>
    obtain⟨hc3,hi3⟩:=hp;obtain⟨hr,hcp,hcW,hcw,hl4,hk4⟩:=fin (some .ret) W3 hc3;exact⟨_,_,hr,hcW,.inr ⟨rfl,_,hIx _ _ _ hi3 (nZ _ _ hcp),hcw,hl4,hk4⟩⟩
   | exit id =>
    obtain⟨hc3,hi3⟩:=hp;obtain⟨hr,hcp,hcW,hcw,hl4,hk4⟩:=fin (some (.exit id)) W3 hc3;exact⟨_,_,hr,hcW,.inr ⟨rfl,_,hIx _ _ _ hi3 (nZ _ _ hcp),hcw,hl4,hk4⟩⟩
   | goto t =>
    obtain⟨hc3,hi3⟩:=hp;obtain⟨hr,hcp,hcW,hcw,hl4,hk4⟩:=fin (some (.goto t)) W3 hc3;exact⟨_,_,hr,hcW,.inr ⟨rfl,_,hIx _ _ _ hi3 (nZ _ _ hcp),hcw,hl4,hk4⟩⟩
   | panic ch=>exact hp.elim
   | outgrown=>exact hp.elim
  ·exact(hb1.cell (p:=⟨pb,0,none⟩) (World.block_lt_of_cell? w _ hp)).trans hp
  ·rintro e W2 ⟨⟨v,rfl⟩,hc2,(⟨hi,hc,hl,hk⟩|⟨c,hi,hc,hl,hk⟩)⟩
   ·refine⟨none,_,by have:=run_endLoop (P:=Tryz.prog) hl (by rw[hrec];simp);rw[hrec]at this;exact this,?_⟩
    have hcp:=aH.putObj W2 (w.heap.size+1) (.loop { rec .ready none with state := .exhausted });rw[hrec]at hcp;exact hdone _ (hc.trans' hcp fun b _ hb=>by omega) (hI _ _ _ hi (nZ _ _ hcp)) (hcp.box hk (by omega))
   ·refine⟨some c,_,by have:=run_endLoop (P:=Tryz.prog) hl (by rw[hrec];simp);rw[hrec]at this;exact this,?_⟩
    have hcp:=aH.putObj W2 (w.heap.size+1) (.loop { rec .done (some c)with state := .exhausted });rw[hrec]at hcp;exact wpIn_wide.2 (hstop c _ (hc.trans' hcp fun b _ hb=>by omega) (hIx _ _ _ hi (nZ _ _ hcp)) (hcp.box hk (by omega)))
theorem Ri (p:Option Addr)(w:World) :
  Calls Tryz.prog 157 #[.pointer p] w fun e w'=>e = .returned (.func (.func 209) #[] #[.pointer (some ⟨w.heap.size,0,none⟩)])/\w'=w.alloc (.cells #[.pointer p] 67):=by
 have hmf:∀(fn:Fn) (first cap:Array Value) (w:World),(Instr.makeFunc fn first cap).run Tryz.prog w = .ok (.func fn first cap) w:=fun _ _ _ _=>rfl
 go_enter Tryz.func157,Tryz.ntmps157
 go_wp2_with fail
 go_ret
 exact⟨rfl,rfl⟩
end Go.Proofs.YtdpbgcmfeajigaaGreatDoor
namespace Go.Proofs.YtdpbgcmfeajigaaGreatDoor
open Go.RowKit
attribute [local go_sem] ak
theorem Qp {l:List Sg}{s:ByteArray}(h:∀j,j<l.length->(l.getD j default).name≠s):iQ l s = -1:=by
 unfold iQ;rw[if_neg];have:=FH (l:=l) (s:=s) (Nat.le_refl _) h;omega
theorem XI {l:List Sg}{s:ByteArray}{i:Nat}(hi:i<l.length)(h:(l.getD i default).name=s)(hm:∀j,j<i->(l.getD j default).name≠s):fQ l s=i:=by
 have h1:=FI hi h;have h2:=FH (Nat.le_of_lt hi) hm;omega
theorem XJ {l:List Sg}{s:ByteArray}{i:Nat}(hi:i<l.length)(h:(l.getD i default).name=s)(hm:∀j,j<i->(l.getD j default).name≠s):iQ l s=(i:Int):=by
 unfold iQ;rw[XI hi h hm,if_pos hi]
theorem BJ {a b:Int}(h:a=b):(a==b)=true:=by rw[h];exact beq_self_eq_true b
theorem bW {a b:Int}(h:a≠b):(a==b)=false:=by
 cases h':a==b
 ·rfl
 ·exact absurd (by simpa using h') h
theorem Xt {a b:ByteArray}(h:a≠b):(a.toList==b.toList)=false:=by
 cases hb:(a.toList==b.toList)
 ·rfl
 ·exact absurd (xK.1 hb) h
theorem uo {D:Dom}(l:List Sg)(s:ByteArray)(A:Option Addr)(c n:Nat)(w:World)(hn:n=l.length)(h:mG w D A c l) :
  Calls Tryz.prog 103 #[.slice A n c,.string s] w fun e w'=>e = .returned (.int .i64 (iQ l s))/\Below w.heap.size w w':=by
 subst hn;have hlen:=h.len.1;have HH:=hid h;clear h
 go_enter Tryz.func103,Tryz.ntmps103
 go_wp2_with fail
 go_loopw [8] (fun q wr=>∃i:Nat,i<=l.length/\q = .int .i64 (i:Int)/\sQ w wr/\Hid (∀j,j<i->(l.getD j default).name≠s)) (fun q _=>l.length-(intOf q).toNat)
 case atStart=>exact⟨0,Nat.zero_le _,rfl,rfl,fun j h=>absurd h (Nat.not_lt_zero _)⟩
 case round =>
  obtain⟨i,hi,rfl,hw,gW⟩:=hrel;obtain rfl:w=wr:=hw.symm
  by_cases hlt:i<l.length
  ·have hii:(i:Int)<l.length:=by omega
   obtain⟨b,o,t,rfl,hlb,HX,x0,x1,x2⟩:=HH.out.get hlt;have LP:=hid (show(l.getD i default).name=t.name by rw[HX.out]);clear HX
   by_cases ht:t.name=s
   ·have d1:(t.name.toList==s.toList)=true:=xK.2 ht
    have HR:=hid (XJ (s:=s) hlt (by rw[LP.out];exact ht) gW.out);clear ht;go_wp2_with fail
    go_ret
    exact⟨bD HR.out.symm,Below.refl _ _⟩
   ·have d1:(t.name.toList==s.toList)=false:=Xt ht
    have wu:=hid ht;clear ht;go_wp2_with fail
    go_roundw
    case rel =>
     refine⟨i+1,by omega,by go_num,rfl,fun j hj=>?_⟩
     by_cases e:j=i
     ·rw[e,LP.out];exact wu.out
     ·exact gW.out j (by omega)
    case measure=>simp[intOf];omega
  ·have hii:¬(i:Int)<l.length:=by omega
   have HR:=hid (Qp (s:=s) fun j hj=>gW.out j (by omega));go_wp2_with fail
   go_ret
   exact⟨bD HR.out.symm,Below.refl _ _⟩
theorem NJ {l:List Sg}{f:Fm}(h:f.op=3):fF l f=if fQ l f.name<l.length then(if(l.getD (fQ l f.name) default).size<=f.val then 71 else 0)else 70:=by
 unfold fF;rw[if_pos h]
theorem NK {l:List Sg}{f:Fm}(h:15<=f.op/\f.op<=19):fF l f=if f.args.all (allB fC)then 0 else 72:=by
 unfold fF Rn;rw[if_neg (by omega),decide_eq_true h.1,decide_eq_true h.2];rfl
theorem Q8 {l:List Sg}{f:Fm}(h3:f.op≠3)(h:¬(15<=f.op/\f.op<=19)):fF l f=0:=by
 unfold fF Rn;rw[if_neg h3,if_neg];rw[Bool.and_eq_true,decide_eq_true_eq,decide_eq_true_eq];exact h
theorem wH {l:List Fm}{q:Fm->Bool}(h:∀j,j<l.length->q (l.getD j default)=true):l.all q=true:=by
 rw[List.all_eq_true];intro x hx;obtain⟨i,hi,rfl⟩:=List.getElem_of_mem hx;have:=h i hi;simpa[List.getD,hi]using this
theorem zT {l:List Fm}{q:Fm->Bool}{i:Nat}(hi:i<l.length)(h:q (l.getD i default)=false):l.all q=false:=by
 rw[List.all_eq_false];exact⟨l.getD i default,by simp[List.getD,hi],by rw[h];simp⟩
theorem NP {D E:Dom}(l:List Sg)(A:Option Addr)(c n:Nat)(f:Fm)(b o:Nat)(A':Option Addr)(c':Nat)(w:World)(hn:n=l.length)(h:mG w D A c l)(hf:dR w E b o f A' c')(hg:GF w)(hd:f.depth<=5000) :
  Calls Tryz.prog 158 #[.slice A n c,.pointer (some ⟨b,o,none⟩)] w fun e w'=>e = .returned (.int .i64 (fF l f))/\Below w.heap.size w w':=by
 subst hn;have hlen:=h.len.1;have HL:=hid h.old;have HF:=hid hf.old;have HG:=hid hg;have HD:=hid hd;obtain⟨_,hlb,f0,f1,f2,f3,f4,_⟩:=hf;clear h hg hd
 by_cases h3:f.op=3
 ·have d3:=BJ h3
  have HR:=hid (NJ (l:=l) h3);clear h3
  by_cases hfn:fQ l f.name<l.length
  ·have hz:iQ l f.name=((fQ l f.name:Nat):Int):=by unfold iQ;rw[if_pos hfn]
   have hcall:=fun W (hb:Below w.heap.size w W)=>uo l f.name A c l.length W rfl (HL.out.any hb);rw[hz]at hcall;have HC:=hid hcall;obtain⟨k,hk⟩:∃k,fQ l f.name=k:=⟨_,rfl⟩;rw[hk]at HC HR hfn;clear hcall hz hk;have hkl:(k:Int)<l.length:=by omega
   have hk0:¬(k:Int)<0:=by omega
   rw[if_pos hfn]at HR;obtain⟨bg,og,s,rfl,TA,HX,g0,g1,g2⟩:=HL.out.get hfn;have jE:=hid (show(l.getD k default).size=s.size by rw[HX.out]);rw[jE.out]at HR;clear HX
   by_cases hs:s.size<=f.val
   ·rw[if_pos hs]at HR
    have ds:decide (s.size<=f.val)=true:=decide_eq_true hs
    go_enter Tryz.func158,Tryz.ntmps158
    go_upto_region 6 with(go_at_call 103;(with_reducible refine(HC.out _ (by first|exact Below.refl _ _|go_grown)).mono ?_);rintro e W2 ⟨rfl,hb2⟩;have k0:=(hb2.cell (p:=⟨bg,og+k*3+2,none⟩) TA).trans g2;have k2:=(hb2.cell (p:=⟨b,o+2,none⟩) hlb).trans f2;have hl2:=Nat.lt_of_lt_of_le TA hb2.size;have hl3:=Nat.lt_of_lt_of_le hlb hb2.size;have HB2:=hid hb2;clear hb2 g0 g1 g2 f0 f1 f2 f3 f4 TA hlb)
    go_quiet (fail)
    go_wp2_with fail
    go_ret
    exact⟨bD HR.out.symm,below_drewN HB2.out _⟩
   ·rw[if_neg hs]at HR
    have ds:decide (s.size<=f.val)=false:=decide_eq_false hs
    go_enter Tryz.func158,Tryz.ntmps158
    go_upto_region 6 with(go_at_call 103;(with_reducible refine(HC.out _ (by first|exact Below.refl _ _|go_grown)).mono ?_);rintro e W2 ⟨rfl,hb2⟩;have k0:=(hb2.cell (p:=⟨bg,og+k*3+2,none⟩) TA).trans g2;have k2:=(hb2.cell (p:=⟨b,o+2,none⟩) hlb).trans f2;have hl2:=Nat.lt_of_lt_of_le TA hb2.size;have hl3:=Nat.lt_of_lt_of_le hlb hb2.size;have HB2:=hid hb2;clear hb2 g0 g1 g2 f0 f1 f2 f3 f4 TA hlb)
    go_quiet (fail)
    go_wp2_with fail
    go_ret
    exact⟨bD HR.out.symm,below_drewN HB2.out _⟩
  ·rw[if_neg hfn]at HR
   have hz:iQ l f.name = -1:=by unfold iQ;rw[if_neg hfn]
   have hcall:=fun W (hb:Below w.heap.size w W)=>uo l f.name A c l.length W rfl (HL.out.any hb);rw[hz]at hcall;have HC:=hid hcall;clear hcall hz hfn
   go_enter Tryz.func158,Tryz.ntmps158
   go_wp2_with (go_at_call 103;(with_reducible refine(HC.out _ (by first|exact Below.refl _ _|go_grown)).mono ?_);rintro e W2 ⟨rfl,hb2⟩;have HB2:=hid hb2;clear hb2)
   go_ret
   exact⟨bD HR.out.symm,HB2.out⟩
 have d3:=bW h3
 by_cases hp:15<=f.op/\f.op<=19
 ·have HR:=hid (NK (l:=l) hp)
  have hcs:f.op=15\/f.op=16\/f.op=17\/f.op=18\/f.op=19:=by omega
  clear h3 hp
  rcases hcs with hop|hcs
  ·have e15:=BJ (a:=f.op) (b:=15) (by omega)
   clear hop
   go_enter Tryz.func158,Tryz.ntmps158
   go_wp2_with fail
   go_loopw [42] (fun q wr=>∃i:Nat,i<=f.args.length/\q = .int .i64 (i:Int)/\Hid (Below w.heap.size w wr)/\Hid (∀j,j<i->allB fC (f.args.getD j default)=true)) (fun q _=>f.args.length-(intOf q).toNat)
   case atStart=>exact⟨0,Nat.zero_le _,rfl,by first|exact Below.refl _ _|go_grown,fun j h=>absurd h (Nat.not_lt_zero _)⟩
   case round =>
    obtain⟨i,hi,rfl,HB,gW⟩:=hrel;have y4:=(HB.out.cell (p:=⟨b,o+4,none⟩) hlb).trans f4;have Bj:=hid (HF.out.args.any HB.out);have hly:=Nat.lt_of_lt_of_le hlb HB.out.size;have hal:=Bj.out.len.1
    by_cases hlt:i<f.args.length
    ·have hii:(i:Int)<f.args.length:=by omega
     obtain⟨b1,o1,A1,c1,g,rfl,HX,hg1⟩:=Bj.out.get hlt
     have Di:=hid (o8 g _ wr ⟨A1,c1,rfl,hg1.args⟩ (HG.out.below HB.out HG.out.pos) (by
      have h1:=kS hlt;rw[HX.out]at h1;have:=HD.out
      omega))
     obtain⟨_,hl1,a0,a1,a2,a3,a4,_⟩:=hg1;have kQ:=hid HX.out;clear HX;cases hq:allB fC g
     ·have HRR:=hid (show fF l f=72 by rw[HR.out,zT hlt (by rw[kQ.out];exact hq)];rfl)
      rw[hq]at Di;clear hq;go_wp2_with (go_at_call 12;(with_reducible refine Di.out.mono ?_);rintro e W2 ⟨rfl,hb2⟩;have HB2:=hid (HB.out.trans (hb2.mono HB.out.size));clear hb2)
      go_ret
      exact⟨bD HRR.out.symm,HB2.out⟩
     ·have HQ:=hid hq
      rw[hq]at Di;clear hq;go_wp2_with (go_at_call 12;(with_reducible refine Di.out.mono ?_);rintro e W2 ⟨rfl,hb2⟩;have HB2:=hid (HB.out.trans (hb2.mono HB.out.size));clear hb2)
      go_roundw
      case rel =>
       refine⟨i+1,by omega,by go_num,HB2.out,fun j hj=>?_⟩
       by_cases e:j=i
       ·rw[e,kQ.out];exact HQ.out
       ·exact gW.out j (by omega)
      case measure=>simp[intOf];omega
    ·have hii:¬(i:Int)<f.args.length:=by omega
     have HRR:=hid (show fF l f=0 by rw[HR.out,wH fun j hj=>gW.out j (by omega)];rfl);go_wp2_with fail
     go_ret
     exact⟨bD HRR.out.symm,HB.out⟩
  rcases hcs with hop|hcs
  ·have e15:=bW (a:=f.op) (b:=15) (by omega)
   have e16:=BJ (a:=f.op) (b:=16) (by omega);clear hop
   go_enter Tryz.func158,Tryz.ntmps158
   go_wp2_with fail
   go_loopw [42] (fun q wr=>∃i:Nat,i<=f.args.length/\q = .int .i64 (i:Int)/\Hid (Below w.heap.size w wr)/\Hid (∀j,j<i->allB fC (f.args.getD j default)=true)) (fun q _=>f.args.length-(intOf q).toNat)
   case atStart=>exact⟨0,Nat.zero_le _,rfl,by first|exact Below.refl _ _|go_grown,fun j h=>absurd h (Nat.not_lt_zero _)⟩
   case round =>
    obtain⟨i,hi,rfl,HB,gW⟩:=hrel;have y4:=(HB.out.cell (p:=⟨b,o+4,none⟩) hlb).trans f4;have Bj:=hid (HF.out.args.any HB.out);have hly:=Nat.lt_of_lt_of_le hlb HB.out.size;have hal:=Bj.out.len.1
    by_cases hlt:i<f.args.length
    ·have hii:(i:Int)<f.args.length:=by omega
     obtain⟨b1,o1,A1,c1,g,rfl,HX,hg1⟩:=Bj.out.get hlt
     have Di:=hid (o8 g _ wr ⟨A1,c1,rfl,hg1.args⟩ (HG.out.below HB.out HG.out.pos) (by
      have h1:=kS hlt;rw[HX.out]at h1;have:=HD.out
      omega))
     obtain⟨_,hl1,a0,a1,a2,a3,a4,_⟩:=hg1;have kQ:=hid HX.out;clear HX;cases hq:allB fC g
     ·have HRR:=hid (show fF l f=72 by rw[HR.out,zT hlt (by rw[kQ.out];exact hq)];rfl)
      rw[hq]at Di;clear hq;go_wp2_with (go_at_call 12;(with_reducible refine Di.out.mono ?_);rintro e W2 ⟨rfl,hb2⟩;have HB2:=hid (HB.out.trans (hb2.mono HB.out.size));clear hb2)
      go_ret
      exact⟨bD HRR.out.symm,HB2.out⟩
     ·have HQ:=hid hq
      rw[hq]at Di;clear hq;go_wp2_with (go_at_call 12;(with_reducible refine Di.out.mono ?_);rintro e W2 ⟨rfl,hb2⟩;have HB2:=hid (HB.out.trans (hb2.mono HB.out.size));clear hb2)
      go_roundw
      case rel =>
       refine⟨i+1,by omega,by go_num,HB2.out,fun j hj=>?_⟩
       by_cases e:j=i
       ·rw[e,kQ.out];exact HQ.out
       ·exact gW.out j (by omega)
      case measure=>simp[intOf];omega
    ·have hii:¬(i:Int)<f.args.length:=by omega
     have HRR:=hid (show fF l f=0 by rw[HR.out,wH fun j hj=>gW.out j (by omega)];rfl);go_wp2_with fail
     go_ret
     exact⟨bD HRR.out.symm,HB.out⟩
  rcases hcs with hop|hcs
  ·have e15:=bW (a:=f.op) (b:=15) (by omega)
   have e16:=bW (a:=f.op) (b:=16) (by omega);have e17:=BJ (a:=f.op) (b:=17) (by omega);clear hop
   go_enter Tryz.func158,Tryz.ntmps158
   go_wp2_with fail
   go_loopw [42] (fun q wr=>∃i:Nat,i<=f.args.length/\q = .int .i64 (i:Int)/\Hid (Below w.heap.size w wr)/\Hid (∀j,j<i->allB fC (f.args.getD j default)=true)) (fun q _=>f.args.length-(intOf q).toNat)
   case atStart=>exact⟨0,Nat.zero_le _,rfl,by first|exact Below.refl _ _|go_grown,fun j h=>absurd h (Nat.not_lt_zero _)⟩
   case round =>
    obtain⟨i,hi,rfl,HB,gW⟩:=hrel;have y4:=(HB.out.cell (p:=⟨b,o+4,none⟩) hlb).trans f4;have Bj:=hid (HF.out.args.any HB.out);have hly:=Nat.lt_of_lt_of_le hlb HB.out.size;have hal:=Bj.out.len.1
    by_cases hlt:i<f.args.length
    ·have hii:(i:Int)<f.args.length:=by omega
     obtain⟨b1,o1,A1,c1,g,rfl,HX,hg1⟩:=Bj.out.get hlt
     have Di:=hid (o8 g _ wr ⟨A1,c1,rfl,hg1.args⟩ (HG.out.below HB.out HG.out.pos) (by
      have h1:=kS hlt;rw[HX.out]at h1;have:=HD.out
      omega))
     obtain⟨_,hl1,a0,a1,a2,a3,a4,_⟩:=hg1;have kQ:=hid HX.out;clear HX;cases hq:allB fC g
     ·have HRR:=hid (show fF l f=72 by rw[HR.out,zT hlt (by rw[kQ.out];exact hq)];rfl)
      rw[hq]at Di;clear hq;go_wp2_with (go_at_call 12;(with_reducible refine Di.out.mono ?_);rintro e W2 ⟨rfl,hb2⟩;have HB2:=hid (HB.out.trans (hb2.mono HB.out.size));clear hb2)
      go_ret
      exact⟨bD HRR.out.symm,HB2.out⟩
     ·have HQ:=hid hq
      rw[hq]at Di;clear hq;go_wp2_with (go_at_call 12;(with_reducible refine Di.out.mono ?_);rintro e W2 ⟨rfl,hb2⟩;have HB2:=hid (HB.out.trans (hb2.mono HB.out.size));clear hb2)
      go_roundw
      case rel =>
       refine⟨i+1,by omega,by go_num,HB2.out,fun j hj=>?_⟩
       by_cases e:j=i
       ·rw[e,kQ.out];exact HQ.out
       ·exact gW.out j (by omega)
      case measure=>simp[intOf];omega
    ·have hii:¬(i:Int)<f.args.length:=by omega
     have HRR:=hid (show fF l f=0 by rw[HR.out,wH fun j hj=>gW.out j (by omega)];rfl);go_wp2_with fail
     go_ret
     exact⟨bD HRR.out.symm,HB.out⟩
  rcases hcs with hop|hop
  ·have e15:=bW (a:=f.op) (b:=15) (by omega)
   have e16:=bW (a:=f.op) (b:=16) (by omega);have e17:=bW (a:=f.op) (b:=17) (by omega);have e18:=BJ (a:=f.op) (b:=18) (by omega);clear hop
   go_enter Tryz.func158,Tryz.ntmps158
   go_wp2_with fail
   go_loopw [42] (fun q wr=>∃i:Nat,i<=f.args.length/\q = .int .i64 (i:Int)/\Hid (Below w.heap.size w wr)/\Hid (∀j,j<i->allB fC (f.args.getD j default)=true)) (fun q _=>f.args.length-(intOf q).toNat)
   case atStart=>exact⟨0,Nat.zero_le _,rfl,by first|exact Below.refl _ _|go_grown,fun j h=>absurd h (Nat.not_lt_zero _)⟩
   case round =>
    obtain⟨i,hi,rfl,HB,gW⟩:=hrel;have y4:=(HB.out.cell (p:=⟨b,o+4,none⟩) hlb).trans f4;have Bj:=hid (HF.out.args.any HB.out);have hly:=Nat.lt_of_lt_of_le hlb HB.out.size;have hal:=Bj.out.len.1
    by_cases hlt:i<f.args.length
    ·have hii:(i:Int)<f.args.length:=by omega
     obtain⟨b1,o1,A1,c1,g,rfl,HX,hg1⟩:=Bj.out.get hlt
     have Di:=hid (o8 g _ wr ⟨A1,c1,rfl,hg1.args⟩ (HG.out.below HB.out HG.out.pos) (by
      have h1:=kS hlt;rw[HX.out]at h1;have:=HD.out
      omega))
     obtain⟨_,hl1,a0,a1,a2,a3,a4,_⟩:=hg1;have kQ:=hid HX.out;clear HX;cases hq:allB fC g
     ·have HRR:=hid (show fF l f=72 by rw[HR.out,zT hlt (by rw[kQ.out];exact hq)];rfl)
      rw[hq]at Di;clear hq;go_wp2_with (go_at_call 12;(with_reducible refine Di.out.mono ?_);rintro e W2 ⟨rfl,hb2⟩;have HB2:=hid (HB.out.trans (hb2.mono HB.out.size));clear hb2)
      go_ret
      exact⟨bD HRR.out.symm,HB2.out⟩
     ·have HQ:=hid hq
      rw[hq]at Di;clear hq;go_wp2_with (go_at_call 12;(with_reducible refine Di.out.mono ?_);rintro e W2 ⟨rfl,hb2⟩;have HB2:=hid (HB.out.trans (hb2.mono HB.out.size));clear hb2)
      go_roundw
      case rel =>
       refine⟨i+1,by omega,by go_num,HB2.out,fun j hj=>?_⟩
       by_cases e:j=i
       ·rw[e,kQ.out];exact HQ.out
       ·exact gW.out j (by omega)
      case measure=>simp[intOf];omega
    ·have hii:¬(i:Int)<f.args.length:=by omega
     have HRR:=hid (show fF l f=0 by rw[HR.out,wH fun j hj=>gW.out j (by omega)];rfl);go_wp2_with fail
     go_ret
     exact⟨bD HRR.out.symm,HB.out⟩
  ·have e15:=bW (a:=f.op) (b:=15) (by omega)
   have e16:=bW (a:=f.op) (b:=16) (by omega);have e17:=bW (a:=f.op) (b:=17) (by omega);have e18:=bW (a:=f.op) (b:=18) (by omega);have e19:=BJ (a:=f.op) (b:=19) (by omega);clear hop
   go_enter Tryz.func158,Tryz.ntmps158
   go_wp2_with fail
   go_loopw [42] (fun q wr=>∃i:Nat,i<=f.args.length/\q = .int .i64 (i:Int)/\Hid (Below w.heap.size w wr)/\Hid (∀j,j<i->allB fC (f.args.getD j default)=true)) (fun q _=>f.args.length-(intOf q).toNat)
   case atStart=>exact⟨0,Nat.zero_le _,rfl,by first|exact Below.refl _ _|go_grown,fun j h=>absurd h (Nat.not_lt_zero _)⟩
   case round =>
    obtain⟨i,hi,rfl,HB,gW⟩:=hrel;have y4:=(HB.out.cell (p:=⟨b,o+4,none⟩) hlb).trans f4;have Bj:=hid (HF.out.args.any HB.out);have hly:=Nat.lt_of_lt_of_le hlb HB.out.size;have hal:=Bj.out.len.1
    by_cases hlt:i<f.args.length
    ·have hii:(i:Int)<f.args.length:=by omega
     obtain⟨b1,o1,A1,c1,g,rfl,HX,hg1⟩:=Bj.out.get hlt
     have Di:=hid (o8 g _ wr ⟨A1,c1,rfl,hg1.args⟩ (HG.out.below HB.out HG.out.pos) (by
      have h1:=kS hlt;rw[HX.out]at h1;have:=HD.out
      omega))
     obtain⟨_,hl1,a0,a1,a2,a3,a4,_⟩:=hg1;have kQ:=hid HX.out;clear HX;cases hq:allB fC g
     ·have HRR:=hid (show fF l f=72 by rw[HR.out,zT hlt (by rw[kQ.out];exact hq)];rfl)
      rw[hq]at Di;clear hq;go_wp2_with (go_at_call 12;(with_reducible refine Di.out.mono ?_);rintro e W2 ⟨rfl,hb2⟩;have HB2:=hid (HB.out.trans (hb2.mono HB.out.size));clear hb2)
      go_ret
      exact⟨bD HRR.out.symm,HB2.out⟩
     ·have HQ:=hid hq
      rw[hq]at Di;clear hq;go_wp2_with (go_at_call 12;(with_reducible refine Di.out.mono ?_);rintro e W2 ⟨rfl,hb2⟩;have HB2:=hid (HB.out.trans (hb2.mono HB.out.size));clear hb2)
      go_roundw
      case rel =>
       refine⟨i+1,by omega,by go_num,HB2.out,fun j hj=>?_⟩
       by_cases e:j=i
       ·rw[e,kQ.out];exact HQ.out
       ·exact gW.out j (by omega)
      case measure=>simp[intOf];omega
    ·have hii:¬(i:Int)<f.args.length:=by omega
     have HRR:=hid (show fF l f=0 by rw[HR.out,wH fun j hj=>gW.out j (by omega)];rfl);go_wp2_with fail
     go_ret
     exact⟨bD HRR.out.symm,HB.out⟩
 ·have HR:=hid (Q8 (l:=l) h3 hp)
  have e15:=bW (a:=f.op) (b:=15) (by omega);have e16:=bW (a:=f.op) (b:=16) (by omega);have e17:=bW (a:=f.op) (b:=17) (by omega);have e18:=bW (a:=f.op) (b:=18) (by omega);have e19:=bW (a:=f.op) (b:=19) (by omega);clear h3 hp
  go_enter Tryz.func158,Tryz.ntmps158
  go_wp2_with fail
  go_ret
  exact⟨bD HR.out.symm,by first|exact Below.refl _ _|go_grown⟩
end Go.Proofs.YtdpbgcmfeajigaaGreatDoor
namespace Go.Proofs.YtdpbgcmfeajigaaGreatDoor
open Go.RowKit Go.Shelf
attribute [local go_sem] ak Oper.semAt_some
theorem FC (l:List Sg):∀{L:List (Fm×Bool)} {k:Nat},k<L.length->(∀j,j<k->fF l (L.getD j default).1=0)->fF l (L.getD k default).1≠0->Ae l L=fF l (L.getD k default).1
 | [],k,h,_,_=>absurd h (Nat.not_lt_zero _)
 | x :: r,0,_,_,hn=>by
  rw[Ae,if_neg]
  ·rfl
  ·exact hn
 | x :: r,k+1,hk,h,hn=>by
  have h0:=h 0 (Nat.succ_pos _);have h0:fF l x.1=0:=h0;rw[Ae,if_pos h0,List.getD_cons_succ];rw[List.getD_cons_succ]at hn;refine FC l (by simpa using hk) (fun j hj=>?_) hn;have:=h (j+1) (by omega);rw[List.getD_cons_succ]at this;exact this
theorem Jp {ins:Bool}{x:Fm×Bool}:∀{l:List Fm},x∈jW ins l->∃g,g∈l/\x∈fE ins g
 | [],h=>by cases h
 | g :: l,h=>by
  simp only[jW,List.mem_append]at h
  rcases h with h|h
  ·exact⟨g,by simp,h⟩
  ·obtain⟨g',h1,h2⟩:=Jp h
   exact⟨g',by simp[h1],h2⟩
theorem Q9 (f:Fm):∀(ins:Bool) (x:Fm×Bool),x∈fE ins f->x.1.depth<=f.depth:=by
 refine Fm.induct (P:=fun f=>∀(ins:Bool) (x:Fm×Bool),x∈fE ins f->x.1.depth<=f.depth) ?_ f;intro f ih ins x hx;rw[rP,List.mem_cons]at hx
 rcases hx with rfl|hx
 ·exact Nat.le_refl _
 ·obtain⟨g,hg,hx⟩:=Jp hx
  obtain⟨i,hi,rfl⟩:=List.getElem_of_mem hg;have e:f.args.getD i default=f.args[i]:=by simp[List.getD,hi]
  have h1:=ih i hi _ x (by rw[e];exact hx);have h2:=kS hi;omega
theorem Ox {D E:Dom}(l:List Sg)(AS:Option Addr)(cS n:Nat)(f:Fm)(v:Value)(w:World)(hn:n=l.length)(hl:mG w D AS cS l)(h:bI w E v f)(hg:GF w)(hk:GK w) :
  Calls Tryz.prog 133 #[.slice AS n cS,v] w fun e w'=>e = .returned (.int .i64 (lG l f))/\Below w.heap.size w w':=by
 subst hn;obtain⟨A,c,rfl,ha⟩:=h;have HL:=hid hl.old;have HA:=hid ha.old;have HG:=hid hg;have HK:=hid hk;have hlen:=hl.len.1;clear hl ha hg hk;refine(callsIn_wide (n:=3)).1 (callsIn_of_wp_marks Tryz.func133 rfl trivial ?_ rfl);simp only[Tryz.ntmps133,List.size_toArray,List.length_cons,List.length_nil,Nat.reduceAdd,Nat.reduceSub,Array.replicate_succ,Array.replicate_zero,List.push_toArray,List.append_toArray,List.nil_append,List.cons_append];refine wpIn_wide.2 ?_;go_upto_region 1 with(fail)
 refine aF fun W hW=>?_;have hb:Below w.heap.size w W:=by rw[hW];go_grown
 have eS:W.heap[w.heap.size]?=some (.cells #[.slice AS l.length cS] 34 (0,0)):=by rw[hW,aQ _ _ _ (by simp;omega),aQ _ _ _ (by simp)];exact at_new _ _ _ rfl
 have e0:dF W (w.heap.size+1) f A c:=by
  show W.heap[w.heap.size+1]?=_;rw[hW,aQ _ _ _ (by simp)];exact at_new _ _ _ (by simp)
 have e1:W.heap[w.heap.size+2]?=some (.cells #[.int .i64 0] 155 (0,0)):=by rw[hW];exact at_new _ _ _ (by simp)
 have HB:=hid hb;have HES:=hid eS;have oL:=hid e0;have lq:=hid e1;have HS:=hid (show w.heap.size+3<=W.heap.size by rw[hW];simp);clear hW hb eS e0 e1;have s0:=aj HES.out (i:=0) rfl;have s1:=lt_of_block HES.out;have BD:=hid (vw l AS cS l.length W rfl (HL.out.any HB.out) (HK.out.below HB.out HK.out.pos));cases hv:dL l
 ·have HR:=hid (show lG l f=1 by unfold lG;rw[hv];rfl)
  rw[hv]at BD;clear hv;go_wp2_with (first|(go_at_call 84;refine BD.out.mono ?_;rintro e V ⟨rfl,jU⟩;have q0:=(jU.block _ (lt_of_block lq.out)).trans lq.out;have r0:=aj q0 (i:=0) rfl;have r1:=aA q0 (i:=0);have r2:=lt_of_block q0))
  have q1:(V.setCell ⟨w.heap.size+2,0,none⟩ (.int .i64 1)).heap[w.heap.size+2]?=some (.cells #[.int .i64 1] 155 (0,0)):=by rw[aB q0];rfl
  have q2:=aj q1 (i:=0) rfl;refine uT rfl (v := .int .i64 1) ?_ ⟨by rw[HR.out],(HB.out.trans (jU.mono HB.out.size)).setCell (p:=⟨w.heap.size+2,0,none⟩) (by simp) _⟩;simp[results,Tryz.results133,go_sem,q2]
 rw[hv]at BD;have yY:=hid hv;clear hv;have ZO:=hid (fun (V:World) (hb:Below W.heap.size W V)=>(show bI V aZ (.agg #[.int .i64 f.op,.string f.name,.int .i64 f.val,.int .i64 f.bound,.slice A f.args.length c]) f from⟨A,c,rfl,HA.out.any (HB.out.trans (hb.mono HB.out.size)) |>.mono fun _ _ _=>trivial⟩));have HG1:=hid (fun (V:World) (hb:Below W.heap.size W V)=>HG.out.below (HB.out.trans (hb.mono HB.out.size)) HG.out.pos);have TW:=hid (fun (V:World) (hb:Below W.heap.size W V)=>HK.out.below (HB.out.trans (hb.mono HB.out.size)) HK.out.pos)
 have HFV:Hid (∀V:World,Below W.heap.size W V->Calls Tryz.prog 156 #[.agg #[.int .i64 f.op,.string f.name,.int .i64 f.val,.int .i64 f.bound,.slice A f.args.length c]] V fun e w'=>e = .returned (.bool (jK f))/\Below V.heap.size V w'):=hid fun V hb=>JE f _ V (ZO.out V hb) (HG1.out V hb) (TW.out V hb);cases hf:jK f
 ·have HR:=hid (show lG l f=30 by unfold lG;rw[yY.out,hf];rfl)
  rw[hf]at HFV;clear hf;go_wp2_with (first|(go_at_call 84;refine BD.out.mono ?_;rintro e V ⟨rfl,jU⟩;have iG:=hid jU;obtain⟨b0,b1,b2,b3,b4,b5⟩:=(oL.out.below jU).cells;clear jU)|(go_at_call 156;refine(HFV.out _ iG.out).mono ?_;rintro e V2 ⟨rfl,hb2⟩;have HB2:=hid (iG.out.trans (hb2.mono iG.out.size));have q0:=(HB2.out.block _ (lt_of_block lq.out)).trans lq.out;have r0:=aj q0 (i:=0) rfl;have r1:=aA q0 (i:=0);have r2:=lt_of_block q0;clear hb2))
  have q1:(V2.setCell ⟨w.heap.size+2,0,none⟩ (.int .i64 30)).heap[w.heap.size+2]?=some (.cells #[.int .i64 30] 155 (0,0)):=by rw[aB q0];rfl
  have q2:=aj q1 (i:=0) rfl;refine uT rfl (v := .int .i64 30) ?_ ⟨by rw[HR.out],(HB.out.trans (HB2.out.mono HB.out.size)).setCell (p:=⟨w.heap.size+2,0,none⟩) (by simp) _⟩;simp[results,Tryz.results133,go_sem,q2]
 have HFT:=hid hf;have HD:=hid (show f.depth<=20 by unfold jK at hf;rw[Bool.and_eq_true,gV]at hf;omega);rw[hf]at HFV;clear hf;go_wp2_with (first|(go_at_call 84;refine BD.out.mono ?_;rintro e V ⟨rfl,jU⟩;have iG:=hid jU;obtain⟨b0,b1,b2,b3,b4,b5⟩:=(oL.out.below jU).cells;clear jU)|(go_at_call 156;refine(HFV.out _ iG.out).mono ?_;rintro e V2 ⟨rfl,hb2⟩;have HB2:=hid (iG.out.trans (hb2.mono iG.out.size));clear hb2 b0 b1 b2 b3 b4 b5)|(go_at_call 157;refine(Ri _ V2).mono ?_;rintro e w2 ⟨rfl,rfl⟩))
 refine aF fun W2 hW2=>?_;have hb2:Below V2.heap.size V2 W2:=by rw[hW2];go_grown
 have hp2:W2.cell? ⟨V2.heap.size,0,none⟩=some (.pointer (some ⟨w.heap.size+1,0,none⟩)):=by rw[hW2];exact aj (at_new _ _ _ rfl) (i:=0) rfl
 have aT:=hid (HB2.out.trans (hb2.mono HB2.out.size));have HS2:=hid (Nat.le_trans HS.out aT.out.size);have HP:=hid hp2;have LH:=hid (oL.out.below aT.out);have vZ:=hid ((aT.out.block _ (lt_of_block lq.out)).trans lq.out);have HES':=hid ((aT.out.block _ (lt_of_block HES.out)).trans HES.out);have HBw:=hid (HB.out.trans (aT.out.mono HB.out.size));have HF:=hid (dF.yH (D:=(· < w.heap.size+2)) LH.out (Nat.lt_succ_self _) ((HA.out.keep (Keeps.of_below HBw.out fun _ h=>h)).mono fun k hk _=>by have:k<w.heap.size:=hk;omega));clear hW2 hb2 hp2 s0 s1 BD HFV ZO
 refine KT f (w.heap.size+1) 0 V2.heap.size (w.heap.size+2) A c (fun b=>b=w.heap.size+2)
  (fun k W'=>vI (qcN l) f k/\W'.heap[w.heap.size+2]?=some (.cells #[.int .i64 0] 155 (0,0)))
  (fun c W'=>c = .ret/\Ae l (fE false f)≠0/\W'.heap[w.heap.size+2]?=some (.cells #[.int .i64 (Ae l (fE false f))] 155 (0,0)))
  rfl rfl HF.out (by omega) (by have:=HS2.out;omega) HP.out ?hZ ?hI ?hIx ⟨qI _ _,vZ.out⟩ ?a1 ?hassign ?eu ?hdone ?hstop
 case hassign =>
  intro l p W K hK
  gi_wp2
  exact hK
 case hZ=>intro b hb;have:=HS2.out;omega
 case hI=>rintro k W3 W4 ⟨h1,h2⟩ hc;exact⟨h1,hc.box h2 (by have:=HS2.out;omega)⟩
 case hIx=>rintro c W3 W4 ⟨h0,h1,h2⟩ hc;exact⟨h0,h1,hc.box h2 (by have:=HS2.out;omega)⟩
 case eu =>
  rintro lr k W3 b o A' c' hs3 hc3 ⟨hk1,hk2⟩ Yc hf3;have hB3:Below w.heap.size w W3:=HBw.out.trans (hc3.below (B:=w.heap.size) (fun b hb=>by omega) HBw.out.size)
  have hdn:((fE false f).getD k default).1.depth<=5000:=by
   have:=Q9 f false _ (Jc Yc);have:=HD.out;omega
  have hcall:=NP l AS cS l.length ((fE false f).getD k default).1 b o A' c' W3 rfl (HL.out.any hB3) hf3 (HG.out.below hB3 HG.out.pos) hdn;have q2:=hc3.box HES'.out (show w.heap.size≠w.heap.size+2 by omega);have c0:=aj q2 (i:=0) rfl;have c1:=lt_of_block q2;have qej:=hid hk1;have EN:=hid hk2;have HLEN:=hid Yc;have r0:=aj hk2 (i:=0) rfl;have r1:=aA hk2 (i:=0);have r2:=lt_of_block hk2;clear hk1 hk2 Yc q2 hf3 hB3 hdn;have Nj:Fence.wide.fn 158:=trivial;have hfd:Fence.wide.depth=none:=rfl;obtain⟨ne,hne⟩:∃ne,fF l ((fE false f).getD k default).1=ne:=⟨_,rfl⟩;rw[hne]at hcall;have wu:=hid hne;clear hne
  by_cases h0:ne=0
  ·rw[h0]at hcall wu
   clear h0
   gi_wp2_with (gi_at_call 158;refine(CallsIn.inRound lr (callsIn_wide.2 hcall)).mono ?_;rintro e W4 ⟨rfl,hb4⟩;have q0:=(hb4.block _ (lt_of_block EN.out)).trans EN.out)
   exact⟨aH.aS (V:=fun b=>b=w.heap.size+2) hb4,qH qej.out (decide_eq_true wu.out),q0⟩
  ·have hb0:(ne != 0)=true:=bne_iff_ne.2 h0
   have HEF:=hid (show Ae l (fE false f)=ne by
    rw[<-wu.out]
    exact FC l HLEN.out (fun j hj=>of_decide_eq_true (qej.out j hj)) (by rw[wu.out];exact h0))
   have WQ:=hid h0;clear h0
   gi_wp2_with (gi_at_call 158;refine(CallsIn.inRound lr (callsIn_wide.2 hcall)).mono ?_;rintro e W4 ⟨rfl,hb4⟩;have q0:=(hb4.block _ (lt_of_block EN.out)).trans EN.out;have r0:=aj q0 (i:=0) rfl;have r1:=aA q0 (i:=0);have r2:=lt_of_block q0)
   refine⟨(aH.aS (V:=fun b=>b=w.heap.size+2) hb4).set ⟨w.heap.size+2,0,none⟩ (.int .i64 ne) (fun _=>rfl),rfl,by rw[HEF.out];exact WQ.out,?_⟩;rw[aB q0,HEF.out];rfl
 case hdone =>
  rintro W3 hc ⟨h1,h2⟩ hD3;have HE:=hid (show Ae l (fE false f)=0 from(IW l _).2 (sU h1));have hB3:Below w.heap.size w W3:=HBw.out.trans (hc.below (B:=w.heap.size) (fun b hb=>by omega) HBw.out.size);have hb5:dF W3 (w.heap.size+1) f A c:=hc.box LH.out (show w.heap.size+1≠w.heap.size+2 by omega);obtain⟨b0,b1,b2,b3,b4,b5⟩:=hb5.cells;have qay:=QU f _ W3 ⟨A,c,rfl,HA.out.any hB3⟩ (HG.out.below hB3 HG.out.pos) (HK.out.below hB3 HK.out.pos);have HB3:=hid hB3;have EN:=hid h2;have HD3:=hid hD3;clear hB3 h1 h2 hD3 hb5;obtain⟨r,hr⟩:∃r,(fM f).2=r:=⟨_,rfl⟩;rw[hr]at qay;have HR:=hid hr;clear hr
  dsimp only
  by_cases hr0:r=0
  ·have Zi:=hid (show lG l f=0 by unfold lG;rw[yY.out,HFT.out,if_pos rfl,if_pos rfl,if_pos HE.out,HR.out,if_pos hr0])
   rw[hr0]at qay;clear hr0;go_wp2_with (go_at_call 159;refine qay.mono ?_;rintro e W4 ⟨kv,rfl,hb4,A4,c4,rfl,_⟩;have HB4:=hid hb4;have q0:=(hb4.block _ (lt_of_block EN.out)).trans EN.out;have r0:=aj q0 (i:=0) rfl;have r1:=aA q0 (i:=0);have r2:=lt_of_block q0;have HQ0:=hid q0;have HD4:=hid ((hb4.block _ (lt_of_block HD3.out)).trans HD3.out);clear hb4 q0)
   have hDl:=lt_of_block HD4.out;have hne:W2.heap.size≠w.heap.size+2:=by have:=HS2.out;omega
   have hD5:((W4.setCell ⟨w.heap.size+2,0,none⟩ (.int .i64 0)).alloc (.cells #[.int .i64 (fM f).1.op,.string (fM f).1.name,.int .i64 (fM f).1.val,.int .i64 (fM f).1.bound,.slice A4 (fM f).1.args.length c4] 24)).heap[W2.heap.size]?=some (.deferred (some [])):=by
    rw[aQ _ _ _ (by simpa using hDl)];exact(at_set (w:=W4) (p:=⟨w.heap.size+2,0,none⟩) (u := .int .i64 0) hne).trans HD4.out
   have e5:((W4.setCell ⟨w.heap.size+2,0,none⟩ (.int .i64 0)).alloc (.cells #[.int .i64 (fM f).1.op,.string (fM f).1.name,.int .i64 (fM f).1.val,.int .i64 (fM f).1.bound,.slice A4 (fM f).1.args.length c4] 24)).heap[w.heap.size+2]?=some (.cells #[.int .i64 0] 155 (0,0)):=by
    rw[aQ _ _ _ (by simpa using r2),aB HQ0.out];rfl
   have hc5:Below w.heap.size w ((W4.setCell ⟨w.heap.size+2,0,none⟩ (.int .i64 0)).alloc (.cells #[.int .i64 (fM f).1.op,.string (fM f).1.name,.int .i64 (fM f).1.val,.int .i64 (fM f).1.bound,.slice A4 (fM f).1.args.length c4] 24)) :=
    ((HB3.out.trans (HB4.out.mono HB3.out.size)).setCell (p:=⟨w.heap.size+2,0,none⟩) (by simp) (.int .i64 0)).alloc (by have:=HB3.out.size;have:=HB4.out.size;simp;omega) _
   refine gy rfl hD5 (v := .int .i64 0) (fun w' hc'=>?_) (fun w' hc'=>⟨by rw[Zi.out],hc5.trans (hc'.below (fun b hb=>by have:=HS2.out;omega) hc5.size)⟩);have:=aj (hc'.box e5 (show w.heap.size+2≠W2.heap.size from fun e=>hne e.symm)) (i:=0) rfl;simp[results,Tryz.results133,go_sem,this]
  ·have Zi:=hid (show lG l f=2 by unfold lG;rw[yY.out,HFT.out,if_pos rfl,if_pos rfl,if_pos HE.out,HR.out,if_neg hr0])
   have hb0:(r != 0)=true:=bne_iff_ne.2 hr0;clear hr0;go_wp2_with (go_at_call 159;refine qay.mono ?_;rintro e W4 ⟨kv,rfl,hb4,A4,c4,rfl,_⟩;have HB4:=hid hb4;have q0:=(hb4.block _ (lt_of_block EN.out)).trans EN.out;have r0:=aj q0 (i:=0) rfl;have r1:=aA q0 (i:=0);have r2:=lt_of_block q0;have HQ0:=hid q0;have HD4:=hid ((hb4.block _ (lt_of_block HD3.out)).trans HD3.out);clear hb4 q0)
   have hDl:=lt_of_block HD4.out;have hne:W2.heap.size≠w.heap.size+2:=by have:=HS2.out;omega
   have hD5:((W4.setCell ⟨w.heap.size+2,0,none⟩ (.int .i64 2)).alloc (.cells #[.int .i64 (fM f).1.op,.string (fM f).1.name,.int .i64 (fM f).1.val,.int .i64 (fM f).1.bound,.slice A4 (fM f).1.args.length c4] 24)).heap[W2.heap.size]?=some (.deferred (some [])):=by
    rw[aQ _ _ _ (by simpa using hDl)];exact(at_set (w:=W4) (p:=⟨w.heap.size+2,0,none⟩) (u := .int .i64 2) hne).trans HD4.out
   have e5:((W4.setCell ⟨w.heap.size+2,0,none⟩ (.int .i64 2)).alloc (.cells #[.int .i64 (fM f).1.op,.string (fM f).1.name,.int .i64 (fM f).1.val,.int .i64 (fM f).1.bound,.slice A4 (fM f).1.args.length c4] 24)).heap[w.heap.size+2]?=some (.cells #[.int .i64 2] 155 (0,0)):=by
    rw[aQ _ _ _ (by simpa using r2),aB HQ0.out];rfl
   have hc5:Below w.heap.size w ((W4.setCell ⟨w.heap.size+2,0,none⟩ (.int .i64 2)).alloc (.cells #[.int .i64 (fM f).1.op,.string (fM f).1.name,.int .i64 (fM f).1.val,.int .i64 (fM f).1.bound,.slice A4 (fM f).1.args.length c4] 24)) :=
    ((HB3.out.trans (HB4.out.mono HB3.out.size)).setCell (p:=⟨w.heap.size+2,0,none⟩) (by simp) (.int .i64 2)).alloc (by have:=HB3.out.size;have:=HB4.out.size;simp;omega) _
   refine gy rfl hD5 (v := .int .i64 2) (fun w' hc'=>?_) (fun w' hc'=>⟨by rw[Zi.out],hc5.trans (hc'.below (fun b hb=>by have:=HS2.out;omega) hc5.size)⟩);have:=aj (hc'.box e5 (show w.heap.size+2≠W2.heap.size from fun e=>hne e.symm)) (i:=0) rfl;simp[results,Tryz.results133,go_sem,this]
 case hstop =>
  rintro c W3 hc ⟨rfl,h1,h2⟩ hD3
  dsimp only
  go_wp2_with fail
  have hc4:=HBw.out.trans (hc.below (B:=w.heap.size) (fun b hb=>by omega) HBw.out.size);refine gy rfl hD3 (v := .int .i64 (Ae l (fE false f))) (fun w' hc'=>?_) (fun w' hc'=>⟨by unfold lG;rw[yY.out,HFT.out,if_pos rfl,if_pos rfl,if_neg h1],hc4.trans (hc'.below (fun b hb=>by have:=HS2.out;omega) hc4.size)⟩);have:=aj (hc'.box h2 (by have:=HS2.out;omega)) (i:=0) rfl;simp[results,Tryz.results133,go_sem,this]
end Go.Proofs.YtdpbgcmfeajigaaGreatDoor
namespace Go.Proofs.YtdpbgcmfeajigaaGreatDoor
open Go.ChangeShapes Go.WideShapes Go.ChangeAt Go.WideMaps Go.WideElems Go.RowKit
def I5 {H:Type}(s:Form):DataW H := .agg [.lit (.int .i64 s.least),.lit (.int .i64 s.most),.lit (.int .i64 s.val),.lit (.int .i64 s.bound),.lit (.bool s.named),.lit (.bool s.past),.lit (.bool s.future),.lit (.bool s.loose)]
theorem Qw {H:Type}:(Rows.laid_foresight_formula_forms:DataW H) = .agg (jT.map I5):=rfl
theorem UZ {H:Type}:(Rows.laid_foresight_signal_keys:DataW H) = .agg (keysL.map fun s => .lit (.string s.data.toList)):=rfl
theorem qe1:Tryz.prog.globalNamed "foresight/signal.keys" = some 1:=by kernel_rfl
theorem qcO:Tryz.prog.globalNamed "foresight/formula.forms" = some 0:=by kernel_rfl
theorem take_one {l:List Value}{j:Nat}{v:Value}(h:(l.drop j).take 1 = [v]):l[j]?=some v:=by
 have h1:=congrArg (fun x:List Value=>x[0]?) h;simpa[List.getElem?_take]using h1
section
variable {H:Type}{enc:TypeId×Value->H}{w:World}{base:Nat}{sp:Nat->Bool}{held:Bool}
theorem Qs {fuel:Nat}{cs:List Value}{s:Form}{ps:List MemPlace}(h:DataW.trod enc Tryz.prog w base sp held fuel 78 cs=some (I5 s,ps)) :
  cs[0]?=some (.int .i64 s.least)/\cs[1]?=some (.int .i64 s.most)/\cs[2]?=some (.int .i64 s.val)/\cs[3]?=some (.int .i64 s.bound)/\cs[4]?=some (.bool s.named)/\cs[5]?=some (.bool s.past)/\cs[6]?=some (.bool s.future)/\cs[7]?=some (.bool s.loose):=by
 obtain⟨xs,n,rfl,hx,hl,hn,hel⟩:=DataW.trod_struct Tryz.underlying78 h;simp only[Prod.mk.injEq,I5,DataW.agg.injEq]at hx;have c3:Tryz.prog.cellsOf 3=1:=by kernel_rfl
 have c4:Tryz.prog.cellsOf 4=1:=by kernel_rfl
 have e0:DataW.trod enc Tryz.prog w base sp held n 3 ((cs.drop 0).take (Tryz.prog.cellsOf 3))=xs[0]?:=hel 0 _ rfl;have e1:DataW.trod enc Tryz.prog w base sp held n 3 ((cs.drop 1).take (Tryz.prog.cellsOf 3))=xs[1]?:=hel 1 _ rfl;have e2:DataW.trod enc Tryz.prog w base sp held n 3 ((cs.drop 2).take (Tryz.prog.cellsOf 3))=xs[2]?:=hel 2 _ rfl;have e3:DataW.trod enc Tryz.prog w base sp held n 3 ((cs.drop 3).take (Tryz.prog.cellsOf 3))=xs[3]?:=hel 3 _ rfl;have e4:DataW.trod enc Tryz.prog w base sp held n 4 ((cs.drop 4).take (Tryz.prog.cellsOf 4))=xs[4]?:=hel 4 _ rfl;have e5:DataW.trod enc Tryz.prog w base sp held n 4 ((cs.drop 5).take (Tryz.prog.cellsOf 4))=xs[5]?:=hel 5 _ rfl
 have e6:DataW.trod enc Tryz.prog w base sp held n 4 ((cs.drop 6).take (Tryz.prog.cellsOf 4))=xs[6]?:=hel 6 _ rfl;have e7:DataW.trod enc Tryz.prog w base sp held n 4 ((cs.drop 7).take (Tryz.prog.cellsOf 4))=xs[7]?:=hel 7 _ rfl
 match xs,hn,hx,e0,e1,e2,e3,e4,e5,e6,e7 with
 | [x0,x1,x2,x3,x4,x5,x6,x7],_,hx,e0,e1,e2,e3,e4,e5,e6,e7 =>
  simp only[List.map_cons,List.map_nil,List.cons.injEq,and_true]at hx;obtain⟨⟨h0,h1,h2,h3,h4,h5,h6,h7⟩,_⟩:=hx;rw[c3]at e0 e1 e2 e3;rw[c4]at e4 e5 e6 e7;obtain⟨k0,a0,b0,_⟩:=DataW.trod_int Tryz.underlying3 e0;obtain⟨k1,a1,b1,_⟩:=DataW.trod_int Tryz.underlying3 e1;obtain⟨k2,a2,b2,_⟩:=DataW.trod_int Tryz.underlying3 e2;obtain⟨k3,a3,b3,_⟩:=DataW.trod_int Tryz.underlying3 e3;obtain⟨k4,a4,b4⟩:=DataW.trod_bool Tryz.underlying4 e4;obtain⟨k5,a5,b5⟩:=DataW.trod_bool Tryz.underlying4 e5;obtain⟨k6,a6,b6⟩:=DataW.trod_bool Tryz.underlying4 e6;obtain⟨k7,a7,b7⟩:=DataW.trod_bool Tryz.underlying4 e7;rw[b0]at h0;rw[b1]at h1;rw[b2]at h2;rw[b3]at h3;rw[b4]at h4;rw[b5]at h5;rw[b6]at h6;rw[b7]at h7
  simp only[DataW.lit.injEq,Lit.int.injEq,Lit.bool.injEq,true_and]at h0 h1 h2 h3 h4 h5 h6 h7;subst h0 h1 h2 h3 h4 h5 h6 h7;exact⟨take_one a0,take_one a1,take_one a2,take_one a3,take_one a4,take_one a5,take_one a6,take_one a7⟩
end
theorem of_laid {W:World}(h:laidMetH Tryz.prog [("foresight/signal.keys", Rows.laid_foresight_signal_keys),("foresight/formula.forms", Rows.laid_foresight_formula_forms)] W):GF W/\GK W:=by
 rw[MakeChecks.laidMetH_plain _ _ _ (by kernel_rfl)]at h;obtain⟨ps,⟨g0,t0,cs0,f0,p0,q0,hg0,ht0,hv0,hd0,⟨g1,t1,cs1,f1,p1,q1,hg1,ht1,hv1,hd1,_,_⟩,_⟩,_,_⟩:=h;obtain rfl:=Option.some.inj (qe1.symm.trans hg0);obtain rfl:=Option.some.inj (qcO.symm.trans hg1);obtain rfl:=Option.some.inj ((show(Tryz.prog.globals[1]?).map (·.type)=some 176 by kernel_rfl).symm.trans ht0);obtain rfl:=Option.some.inj ((show(Tryz.prog.globals[0]?).map (·.type)=some 125 by kernel_rfl).symm.trans ht1);rw[UZ]at hd0;rw[Qw]at hd1
 constructor
 ·obtain⟨xs,m,rfl,hx,hlen,hn,hel⟩:=DataW.trod_array Tryz.underlying125 hd1
  have c8:Tryz.prog.cellsOf 78=8:=by kernel_rfl
  simp only[Prod.mk.injEq,DataW.agg.injEq]at hx
  have key:∀k,k<20->∀j u,(((cs1.toList.drop (k*8)).take 8)[j]?=some u)->W.cell? ⟨0,k*8+j,none⟩=some u:=fun k hk j u hu=>by
   have hj:j<8:=by
    rcases Nat.lt_or_ge j 8 with h|h
    ·exact h
    ·rw[List.getElem?_take_eq_none h]at hu;cases hu
   rw[List.getElem?_take_of_lt hj,List.getElem?_drop]at hu;have:=World.var?_cell hg1 hv1 (k*8+j);rw[this,<-hu];simp
  have el:∀k,k<20->_:=fun k hk=>by
   have e:=hel k hk;rw[c8]at e;have hk':k<xs.length:=by rw[hn];exact hk
   rw[List.getElem?_eq_getElem hk']at e
   have e2:xs[k].1=I5 (jT.getD k fZ):=by
    have h1:(xs.map (·.1))[k]?=(jT.map I5)[k]?:=by rw[<-hx.1]
    rw[List.getElem?_map,List.getElem?_map,List.getElem?_eq_getElem hk']at h1;have hf:k<jT.length:=hk;rw[List.getElem?_eq_getElem hf]at h1;simp only[Option.map_some,Option.some.injEq]at h1;rw[h1];simp[List.getD,List.getElem?_eq_getElem hf]
   have e3:xs[k]=(I5 (jT.getD k fZ),xs[k].2):=Prod.ext e2 rfl;rw[e3]at e;exact Qs e
  refine⟨?_,fun k hk=>?_⟩
  ·have:=key 0 (by omega) 0 _ (el 0 (by omega)).1
   exact World.block_lt_of_cell? W ⟨0,_,none⟩ this
  ·obtain⟨a0,a1,a2,a3,a4,a5,a6,a7⟩:=el k hk
   exact⟨key k hk 0 _ a0,key k hk 1 _ a1,key k hk 2 _ a2,key k hk 3 _ a3,key k hk 4 _ a4,key k hk 5 _ a5,key k hk 6 _ a6,key k hk 7 _ a7⟩
 ·obtain⟨xs,m,rfl,hx,hlen,hn,hel⟩:=DataW.trod_array Tryz.underlying176 hd0
  have c1:Tryz.prog.cellsOf 9=1:=by kernel_rfl
  simp only[Prod.mk.injEq,DataW.agg.injEq]at hx
  have el:∀k,k<10->W.cell? ⟨1,k,none⟩=some (.string (keysL.getD k ByteArray.empty)):=fun k hk=>by
   have e:=hel k hk;rw[c1,Nat.mul_one]at e;have hk':k<xs.length:=by rw[hn];exact hk
   rw[List.getElem?_eq_getElem hk']at e;obtain⟨s,e1,e2,_⟩:=DataW.trod_string Tryz.underlying9 e;have h1:(xs.map (·.1))[k]?=(keysL.map fun s=>(.lit (.string s.data.toList):DataW Unit))[k]?:=by rw[<-hx.1]
   have hf:k<keysL.length:=hk;rw[List.getElem?_map,List.getElem?_map,List.getElem?_eq_getElem hk',List.getElem?_eq_getElem hf,e2]at h1;simp only[Option.map_some,Option.some.injEq,DataW.lit.injEq,Lit.string.injEq]at h1
   have hs:s=keysL[k]:=by
    have:=Array.toList_inj.1 h1;cases s;cases hq:keysL[k];rw[hq]at this;simp only at this;rw[this]
   have:=World.var?_cell hg0 hv0 k;rw[this];have h2:=take_one e1;rw[hs]at h2;have h3:keysL.getD k ByteArray.empty=keysL[k]:=by simp[List.getD,List.getElem?_eq_getElem hf]
   rw[h3,<-h2];simp
  exact⟨World.block_lt_of_cell? W ⟨1,_,none⟩ (el 0 (by omega)),el⟩
end Go.Proofs.YtdpbgcmfeajigaaGreatDoor
